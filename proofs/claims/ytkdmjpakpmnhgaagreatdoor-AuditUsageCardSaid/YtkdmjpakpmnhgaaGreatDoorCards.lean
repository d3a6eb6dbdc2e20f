/-
  DERIVED. GIVEN WITH THE SEED: THE CARDS: each row of YtkdmjpakpmnhgaaGreatDoorRows.lean that lists a variable, with what it lists TIED to the program's text (the seventh form; the later family's looks); each row that meets fmt, with fmt's text TOLD by the authors' own Lean function (tested against real Go, not proved from fmt's source: count such statements apart). THE CARD IS WHAT COUNTS. Prove the row's statement (the work); the ties are given (YtkdmjpakpmnhgaaGreatDoorTie.lean); close each card by the builder's one call (the guide's Derived/Test/ToyasCard.lean, 'card_holds'). Laid BY PROGRAM, IN A SANDBOX (cutbox-door.mjs). By AI agents, Wed Nov 11 2026. No macro, syntax, notation, axiom, sorry.
-/
import Derived.Test.YtkdmjpakpmnhgaaGreatDoorRows
import GoSem.ClaimSeven
namespace Go.Proofs.YtkdmjpakpmnhgaaGreatDoor
namespace Rows

/-- THE TIED CARD OF 'hammocklaw26.AuditUsage'. -/
def auditUsageCard : Claim7 := { stood := { row := auditUsageRow, standIns := [], harness := (true, "7cd38647d6119b84cf0346d90ec9542c7a0884f139cf1c653ad65aff13a4508d"), looks := false }, kinds := [], alts := [], laidByText := true, laidKinds := [.data, .data], laidTests := true, laidLooks := .later }
def AuditUsageCardSaid : Prop := Claim7.holds Tryz.pinned (.plain (OpenSpec.ofChange auditUsageSpec)) auditUsageCard

/-- THE SECOND FORM's CARD OF 'hammocklaw26.AuditUsage'. -/
def auditUsageUptoCard : Claim7 := { stood := { row := auditUsageUptoRow, standIns := [], harness := (true, "7cd38647d6119b84cf0346d90ec9542c7a0884f139cf1c653ad65aff13a4508d"), looks := false }, kinds := [], alts := [], laidByText := true, laidKinds := [.data, .data], laidTests := true, laidLooks := .later }
def AuditUsageUptoCardSaid : Prop := Claim7.holds Tryz.pinned (.plain (OpenSpec.upto auditUsageSpec)) auditUsageUptoCard
end Rows
end Go.Proofs.YtkdmjpakpmnhgaaGreatDoor
