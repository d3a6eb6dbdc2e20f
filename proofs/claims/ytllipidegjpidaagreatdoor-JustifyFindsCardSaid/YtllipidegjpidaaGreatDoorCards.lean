/-
  DERIVED. GIVEN WITH THE SEED: THE CARDS: each row of YtllipidegjpidaaGreatDoorRows.lean that lists a variable, with what it lists TIED to the program's text (the seventh form; the later family's looks); each row that meets fmt, with fmt's text TOLD by the authors' own Lean function (tested against real Go, not proved from fmt's source: count such statements apart). THE CARD IS WHAT COUNTS. Prove the row's statement (the work); the ties are given (YtllipidegjpidaaGreatDoorTie.lean); close each card by the builder's one call (the guide's Derived/Test/ToyasCard.lean, 'card_holds'). Laid BY PROGRAM, IN A SANDBOX (cutbox-door.mjs). By AI agents, Wed Nov 11 2026. No macro, syntax, notation, axiom, sorry.
-/
import Derived.Test.YtllipidegjpidaaGreatDoorRows
import GoSem.ClaimSeven
namespace Go.Proofs.YtllipidegjpidaaGreatDoor
namespace Rows

/-- THE TIED CARD OF 'hammocklaw27.JustifyFinds'. -/
def justifyFindsCard : Claim7 := { stood := { row := justifyFindsRow, standIns := [], harness := (true, "5de4b364cac5c2f92a96330f2200a3d3b05f47ba23dbaa3b5098531cab41cb4f"), looks := true }, kinds := [], alts := [], laidByText := true, laidKinds := [.handle, .data, .data], laidTests := true, laidLooks := .later }
def JustifyFindsCardSaid : Prop := Claim7.holds Tryz.pinned (.plain (OpenSpec.ofChange justifyFindsSpec)) justifyFindsCard

/-- THE SECOND FORM's CARD OF 'hammocklaw27.JustifyFinds'. -/
def justifyFindsUptoCard : Claim7 := { stood := { row := justifyFindsUptoRow, standIns := [], harness := (true, "5de4b364cac5c2f92a96330f2200a3d3b05f47ba23dbaa3b5098531cab41cb4f"), looks := true }, kinds := [], alts := [], laidByText := true, laidKinds := [.handle, .data, .data], laidTests := true, laidLooks := .later }
def JustifyFindsUptoCardSaid : Prop := Claim7.holds Tryz.pinned (.plain (OpenSpec.upto justifyFindsSpec)) justifyFindsUptoCard
end Rows
end Go.Proofs.YtllipidegjpidaaGreatDoor
