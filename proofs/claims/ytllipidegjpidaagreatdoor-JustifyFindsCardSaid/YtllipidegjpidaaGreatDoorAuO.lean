/- phase.Name of kinds and phases in the table. -/
import Derived.Test.YtllipidegjpidaaGreatDoorAuA
namespace Go.Proofs.YtllipidegjpidaaGreatDoor
set_option linter.all false
open Go.RowKit

set_option maxRecDepth 100000 in
theorem phaseName_in (k : Nat) (s : ByteArray) (w : World) (hk : k < 6) (h : w.cell? ⟨2, k, none⟩ = some (.string s)) : Calls Tryz.prog 115 #[.int .i64 k] w fun e w' => e = .returned (.string s) ∧ w = w' := by
  have h0 : ¬ ((k : Int) < 0) := by omega
  have h1 : ¬ ((6 : Int) ≤ (k : Int)) := by omega
  have h2 : (0 : Int) ≤ (k : Int) := by omega
  have h3 : (k : Int) < 6 := by omega
  go_enter Tryz.func115, Tryz.ntmps115
  go_wp2
  go_ret
  exact ⟨rfl, rfl⟩
end Go.Proofs.YtllipidegjpidaaGreatDoor
