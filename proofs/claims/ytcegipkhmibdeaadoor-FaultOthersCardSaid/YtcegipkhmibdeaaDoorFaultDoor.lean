/- What the listed tables of names give. -/
import Derived.Test.YtcegipkhmibdeaaDoorOpDoor
import Derived.Test.YtcegipkhmibdeaaDoorFNames
namespace Go.Proofs.YtcegipkhmibdeaaDoor
set_option linter.all false
open Go.ChangeShapes Go.WideShapes Go.ChangeAt Go.WideMaps Go.WideElems Go.RowKit

theorem gCodes : Tryd.prog.globalNamed "hammock/fault.names" = some 1 := by kernel_rfl
theorem tCodes : (Tryd.prog.globals[1]?).map (·.type) = some 142 := by kernel_rfl
theorem uCodes : Tryd.prog.underlying 142 = some (.array 11 9) := by kernel_rfl
theorem gKinds : Tryd.prog.globalNamed "hammock/fault.kinds" = some 2 := by kernel_rfl
theorem tKinds : (Tryd.prog.globals[2]?).map (·.type) = some 143 := by kernel_rfl
theorem uKinds : Tryd.prog.underlying 143 = some (.array 8 9) := by kernel_rfl
/-- fault.names and fault.kinds, as they are listed. -/
theorem codes_of_laid {W : World} {r : List (String × DataW Unit)} {ps : List MemPlace} (h : DataW.LaidVars Tryd.prog W (("hammock/fault.names", Rows.laid_hammock_fault_names) :: r) ps) : CodesAt W ∧ ∃ q, DataW.LaidVars Tryd.prog W r q := by
  have h1 := laid_strings (ss := codeNames.map (·.data.toList)) h gCodes tCodes uCodes Tryd.underlying9 c1String
  refine ⟨fun i hi => ?_, h1.2⟩
  rw [h1.1 i hi]
  have : i = 0 ∨ i = 1 ∨ i = 2 ∨ i = 3 ∨ i = 4 ∨ i = 5 ∨ i = 6 ∨ i = 7 ∨ i = 8 ∨ i = 9 ∨ i = 10 := by omega
  rcases this with rfl | rfl | rfl | rfl | rfl | rfl | rfl | rfl | rfl | rfl | rfl <;> rfl
theorem kinds_of_laid {W : World} {r : List (String × DataW Unit)} {ps : List MemPlace} (h : DataW.LaidVars Tryd.prog W (("hammock/fault.kinds", Rows.laid_hammock_fault_kinds) :: r) ps) : KindsAt W := by
  have h1 := laid_strings (ss := kindNames.map (·.data.toList)) h gKinds tKinds uKinds Tryd.underlying9 c1String
  intro i hi
  rw [h1.1 i hi]
  have : i = 0 ∨ i = 1 ∨ i = 2 ∨ i = 3 ∨ i = 4 ∨ i = 5 ∨ i = 6 ∨ i = 7 := by omega
  rcases this with rfl | rfl | rfl | rfl | rfl | rfl | rfl | rfl <;> rfl
end Go.Proofs.YtcegipkhmibdeaaDoor
