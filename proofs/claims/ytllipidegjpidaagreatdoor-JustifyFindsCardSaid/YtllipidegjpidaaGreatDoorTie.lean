/-
  DERIVED. GIVEN WITH THE SEED: THE PROGRAM's TIES (one call each: nine closed facts by the kernel) AND EACH ROW's TIE, after the 31st guide's Derived/Test/Toyas{Tie, Card}.lean. No idea stands in it: it is a product of the set-up. Laid BY PROGRAM, IN A SANDBOX (cutbox-door.mjs). By AI agents, Wed Nov 11 2026. No macro, syntax, notation, axiom, sorry.
-/
import Derived.Test.YtllipidegjpidaaGreatDoorRows
import Derived.LaidByTextLater
import Derived.SevenTiedAt
import Derived.LaidSub
import Derived.LaidOnce
namespace Go.Proofs.YtllipidegjpidaaGreatDoor
open Go
set_option maxRecDepth 100000
theorem seatTie1 : Tryz.prog.laidByTextLater [("errors.errorType", Rows.laid_errors_errorType), ("hammock/phase.names", Rows.laid_hammock_phase_names), ("hammock/justify.names", Rows.laid_hammock_justify_names)] [.handle, .data, .data] true :=
  Program.laidByTextLater_by_one 26 8 10 (by kernel_rfl) (by kernel_rfl) (by kernel_rfl) (by kernel_rfl) (by kernel_rfl) (by kernel_rfl) (fun _ _ => by kernel_rfl)
theorem noOwnUnsafe : Tryz.pinned.checked.prog.headLifts.contains "ownunsafe" = false := by kernel_rfl
theorem tie : Tryz.prog.laidByTextLater [("errors.errorType", Rows.laid_errors_errorType), ("hammock/phase.names", Rows.laid_hammock_phase_names), ("hammock/justify.names", Rows.laid_hammock_justify_names)] [.handle, .data, .data] true :=
  Program.laidByTextLater.sub seatTie1 ["errors.errorType", "hammock/phase.names", "hammock/justify.names"] (by kernel_rfl) (by kernel_rfl)
theorem justifyFinds_row_tie : Rows.justifyFindsRow.laidByTextAt .later Tryz.pinned [.handle, .data, .data] true :=
  OpenClaim.laidByTextAt_later rfl rfl tie noOwnUnsafe
theorem justifyFindsUpto_row_tie : Rows.justifyFindsUptoRow.laidByTextAt .later Tryz.pinned [.handle, .data, .data] true :=
  OpenClaim.laidByTextAt_later rfl rfl tie noOwnUnsafe
end Go.Proofs.YtllipidegjpidaaGreatDoor
