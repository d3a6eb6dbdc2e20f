/- slices.Sort of one int. -/
import Derived.Test.YtllipidegjpidaaGreatDoorJP
namespace Go.Proofs.YtllipidegjpidaaGreatDoor
set_option linter.all false
open Go.RowKit

set_option maxRecDepth 100000 in
theorem len64_one (w : World) : Calls Tryz.prog 205 #[.int .u64 1] w fun e w' => e = .returned (.int .i64 1) ∧ w = w' := by
  go_enter Tryz.func205, Tryz.ntmps205
  go_wp2
  go_ret
  exact ⟨by kernel_rfl, rfl⟩
set_option maxRecDepth 100000 in
theorem len_one (w : World) : Calls Tryz.prog 189 #[.int .u64 1] w fun e w' => e = .returned (.int .i64 1) ∧ w = w' := by
  have HI : Hid (∀ X, Calls Tryz.prog 205 #[.int .u64 1] X fun e w' => e = .returned (.int .i64 1) ∧ X = w') := fun X => len64_one X
  go_enter Tryz.func189, Tryz.ntmps189
  go_wp2
  go_ret
  exact ⟨by kernel_rfl, rfl⟩
set_option maxRecDepth 100000 in
theorem sort1_any (b o c : Nat) (w : World) : Calls Tryz.prog 179 #[.slice (some ⟨b, o, none⟩) 1 c] w fun e w' => (∃ v, e = .returned v) ∧ w = w' := by
  have HP := Lib.hid (pdq1_any b o c 1)
  have HL := Lib.hid len_one
  go_enter Tryz.func179, Tryz.ntmps179
  go_wp2_with (first
    | (go_at_call 189; refine (HL.out _).mono ?_; rintro e w1 ⟨rfl, rfl⟩)
    | (go_at_call 188; refine (HP.out _).mono ?_; rintro e w1 ⟨⟨v, rfl⟩, rfl⟩))
  go_end0
  exact ⟨⟨_, rfl⟩, rfl⟩
end Go.Proofs.YtllipidegjpidaaGreatDoor
