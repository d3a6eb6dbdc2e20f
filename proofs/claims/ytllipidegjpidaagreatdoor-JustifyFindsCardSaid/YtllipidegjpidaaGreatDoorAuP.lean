/- audit.parts. -/
import Derived.Test.YtllipidegjpidaaGreatDoorAuN
import Derived.Test.YtllipidegjpidaaGreatDoorAuF
import Derived.Laws.EntriesVeiled
namespace Go.Proofs.YtllipidegjpidaaGreatDoor
set_option linter.all false
open Go.RowKit

/-- The parts of an audit. -/
def partsV : Value := .agg #[.int .i64 5, .func (Fn.func 77) #[] #[], .int .i64 1, .func (Fn.func 78) #[] #[], .int .i64 2, .func (Fn.func 79) #[] #[], .int .i64 3, .func (Fn.func 80) #[] #[], .int .i64 4, .func (Fn.func 81) #[] #[]]
set_option maxRecDepth 100000 in
theorem parts_any (w : World) : Calls Tryz.prog 45 #[] w fun e w' => e = .returned partsV ∧ Below w.heap.size w w' := by
  go_enter Tryz.func45, Tryz.ntmps45
  go_wp2
  refine bodyPost_ret (v := partsV) ?_ rfl ⟨rfl, ?_⟩
  · simp only [results, Tryz.results45]; go_simp; rfl
  exact (((Below.refl _ w).alloc (Nat.le_refl _) _))
theorem parts_idx0 (w : World) : (Instr.index 106 (.agg #[.int .i64 5, .func (Fn.func 77) #[] #[], .int .i64 1, .func (Fn.func 78) #[] #[], .int .i64 2, .func (Fn.func 79) #[] #[], .int .i64 3, .func (Fn.func 80) #[] #[], .int .i64 4, .func (Fn.func 81) #[] #[]]) (.int .i64 0)).run Tryz.prog w = .ok (.agg #[.int .i64 5, .func (Fn.func 77) #[] #[]]) w := by kernel_rfl
theorem parts_idx1 (w : World) : (Instr.index 106 (.agg #[.int .i64 5, .func (Fn.func 77) #[] #[], .int .i64 1, .func (Fn.func 78) #[] #[], .int .i64 2, .func (Fn.func 79) #[] #[], .int .i64 3, .func (Fn.func 80) #[] #[], .int .i64 4, .func (Fn.func 81) #[] #[]]) (.int .i64 1)).run Tryz.prog w = .ok (.agg #[.int .i64 1, .func (Fn.func 78) #[] #[]]) w := by kernel_rfl
theorem parts_idx2 (w : World) : (Instr.index 106 (.agg #[.int .i64 5, .func (Fn.func 77) #[] #[], .int .i64 1, .func (Fn.func 78) #[] #[], .int .i64 2, .func (Fn.func 79) #[] #[], .int .i64 3, .func (Fn.func 80) #[] #[], .int .i64 4, .func (Fn.func 81) #[] #[]]) (.int .i64 2)).run Tryz.prog w = .ok (.agg #[.int .i64 2, .func (Fn.func 79) #[] #[]]) w := by kernel_rfl
theorem parts_idx3 (w : World) : (Instr.index 106 (.agg #[.int .i64 5, .func (Fn.func 77) #[] #[], .int .i64 1, .func (Fn.func 78) #[] #[], .int .i64 2, .func (Fn.func 79) #[] #[], .int .i64 3, .func (Fn.func 80) #[] #[], .int .i64 4, .func (Fn.func 81) #[] #[]]) (.int .i64 3)).run Tryz.prog w = .ok (.agg #[.int .i64 3, .func (Fn.func 80) #[] #[]]) w := by kernel_rfl
theorem parts_idx4 (w : World) : (Instr.index 106 (.agg #[.int .i64 5, .func (Fn.func 77) #[] #[], .int .i64 1, .func (Fn.func 78) #[] #[], .int .i64 2, .func (Fn.func 79) #[] #[], .int .i64 3, .func (Fn.func 80) #[] #[], .int .i64 4, .func (Fn.func 81) #[] #[]]) (.int .i64 4)).run Tryz.prog w = .ok (.agg #[.int .i64 4, .func (Fn.func 81) #[] #[]]) w := by kernel_rfl
end Go.Proofs.YtllipidegjpidaaGreatDoor
