/- audit.parts. -/
import Derived.Test.YtkdmjpakpmnhgaaGreatDoorAuN
import Derived.Test.YtkdmjpakpmnhgaaGreatDoorAuF
import Derived.Laws.EntriesVeiled
namespace Go.Proofs.YtkdmjpakpmnhgaaGreatDoor
set_option linter.all false
open Go.RowKit

/-- The parts of an audit. -/
def partsV : Value := .agg #[.int .i64 5, .func (Fn.func 33) #[] #[], .int .i64 1, .func (Fn.func 34) #[] #[], .int .i64 2, .func (Fn.func 35) #[] #[], .int .i64 3, .func (Fn.func 36) #[] #[], .int .i64 4, .func (Fn.func 37) #[] #[]]
set_option maxRecDepth 100000 in
theorem parts_any (w : World) : Calls Tryz.prog 22 #[] w fun e w' => e = .returned partsV ∧ Below w.heap.size w w' := by
  go_enter Tryz.func22, Tryz.ntmps22
  go_wp2
  refine bodyPost_ret (v := partsV) ?_ rfl ⟨rfl, ?_⟩
  · simp only [results, Tryz.results22]; go_simp; rfl
  exact (((Below.refl _ w).alloc (Nat.le_refl _) _))
theorem parts_idx0 (w : World) : (Instr.index 62 (.agg #[.int .i64 5, .func (Fn.func 33) #[] #[], .int .i64 1, .func (Fn.func 34) #[] #[], .int .i64 2, .func (Fn.func 35) #[] #[], .int .i64 3, .func (Fn.func 36) #[] #[], .int .i64 4, .func (Fn.func 37) #[] #[]]) (.int .i64 0)).run Tryz.prog w = .ok (.agg #[.int .i64 5, .func (Fn.func 33) #[] #[]]) w := by kernel_rfl
theorem parts_idx1 (w : World) : (Instr.index 62 (.agg #[.int .i64 5, .func (Fn.func 33) #[] #[], .int .i64 1, .func (Fn.func 34) #[] #[], .int .i64 2, .func (Fn.func 35) #[] #[], .int .i64 3, .func (Fn.func 36) #[] #[], .int .i64 4, .func (Fn.func 37) #[] #[]]) (.int .i64 1)).run Tryz.prog w = .ok (.agg #[.int .i64 1, .func (Fn.func 34) #[] #[]]) w := by kernel_rfl
theorem parts_idx2 (w : World) : (Instr.index 62 (.agg #[.int .i64 5, .func (Fn.func 33) #[] #[], .int .i64 1, .func (Fn.func 34) #[] #[], .int .i64 2, .func (Fn.func 35) #[] #[], .int .i64 3, .func (Fn.func 36) #[] #[], .int .i64 4, .func (Fn.func 37) #[] #[]]) (.int .i64 2)).run Tryz.prog w = .ok (.agg #[.int .i64 2, .func (Fn.func 35) #[] #[]]) w := by kernel_rfl
theorem parts_idx3 (w : World) : (Instr.index 62 (.agg #[.int .i64 5, .func (Fn.func 33) #[] #[], .int .i64 1, .func (Fn.func 34) #[] #[], .int .i64 2, .func (Fn.func 35) #[] #[], .int .i64 3, .func (Fn.func 36) #[] #[], .int .i64 4, .func (Fn.func 37) #[] #[]]) (.int .i64 3)).run Tryz.prog w = .ok (.agg #[.int .i64 3, .func (Fn.func 36) #[] #[]]) w := by kernel_rfl
theorem parts_idx4 (w : World) : (Instr.index 62 (.agg #[.int .i64 5, .func (Fn.func 33) #[] #[], .int .i64 1, .func (Fn.func 34) #[] #[], .int .i64 2, .func (Fn.func 35) #[] #[], .int .i64 3, .func (Fn.func 36) #[] #[], .int .i64 4, .func (Fn.func 37) #[] #[]]) (.int .i64 4)).run Tryz.prog w = .ok (.agg #[.int .i64 4, .func (Fn.func 37) #[] #[]]) w := by kernel_rfl
end Go.Proofs.YtkdmjpakpmnhgaaGreatDoor
