/- Small functions that the audit calls: phases, math/bits.Add64. -/
import Derived.Test.YtllipidegjpidaaGreatDoorKit
import Derived.Test.YtllipidegjpidaaGreatDoorProg
import Derived.Laws.Externs
namespace Go.Proofs.YtllipidegjpidaaGreatDoor
set_option linter.all false
open Go.RowKit

/-- Does a phase hold resources? -/
def holdsB (k : Int) : Bool := k == 3 || k == 4
def placedB (k : Int) : Bool := k == 2 || k == 3 || k == 4
def waitsB (k : Int) : Bool := k == 1 || k == 2
theorem phases6 (k : Int) : k = 1 ∨ k = 2 ∨ k = 3 ∨ k = 4 ∨ ((k == 1) = false ∧ (k == 2) = false ∧ (k == 3) = false ∧ (k == 4) = false) := by
  simp only [beq_eq_false_iff_ne]; omega
set_option maxRecDepth 100000 in
theorem placed_any (k : Int) (w : World) : Calls Tryz.prog 95 #[.int .i64 k] w fun e w' => e = .returned (.bool (placedB k)) ∧ w = w' := by
  rcases phases6 k with rfl | rfl | rfl | rfl | ⟨h1, h2, h3, h4⟩
  all_goals
    go_enter Tryz.func95, Tryz.ntmps95
    go_wp2
    go_ret
    first
      | exact ⟨rfl, rfl⟩
      | exact ⟨by simp [placedB, h2, h3, h4], rfl⟩
      | fail
set_option maxRecDepth 100000 in
theorem waits_any (k : Int) (w : World) : Calls Tryz.prog 23 #[.int .i64 k] w fun e w' => e = .returned (.bool (waitsB k)) ∧ w = w' := by
  rcases phases6 k with rfl | rfl | rfl | rfl | ⟨h1, h2, h3, h4⟩
  all_goals
    go_enter Tryz.func23, Tryz.ntmps23
    go_wp2
    go_ret
    first
      | exact ⟨rfl, rfl⟩
      | exact ⟨by simp [waitsB, h1, h2], rfl⟩
      | fail
set_option maxRecDepth 100000 in
theorem holds_any (k : Int) (w : World) : Calls Tryz.prog 60 #[.int .i64 k] w fun e w' => e = .returned (.bool (holdsB k)) ∧ w = w' := by
  have HP := Lib.hid (placed_any k)
  have HW := Lib.hid (waits_any k)
  have hq : holdsB k = (placedB k && !waitsB k) := by
    rcases phases6 k with rfl | rfl | rfl | rfl | ⟨h1, h2, h3, h4⟩
    · rfl
    · rfl
    · rfl
    · rfl
    · simp [holdsB, placedB, waitsB, h1, h2, h3, h4]
  rw [hq]
  generalize placedB k = a at *
  generalize waitsB k = b at *
  cases a <;> cases b
  all_goals
    go_enter Tryz.func60, Tryz.ntmps60
    go_wp2_with fail
    refine (HP.out _).mono ?_
    rintro e w1 ⟨rfl, rfl⟩
    go_wp2_with (go_at_call 23; refine (HW.out _).mono ?_; rintro e w2 ⟨rfl, rfl⟩)
    go_ret
    exact ⟨rfl, rfl⟩
theorem add64_run (x y : Int) (hx : 0 ≤ x) (hy : 0 ≤ y) (h : x + y < 18446744073709551616) (w : World) :
    (callFunc 181 #[.int .u64 x, .int .u64 y, .int .u64 0]).run Tryz.prog w = .ok (.value (.tuple #[.int .u64 (x + y), .int .u64 0])) w := by
  rw [run_callFunc_extern Tryz.func181 (by kernel_rfl) (by kernel_rfl) (by kernel_rfl) (e := add64Entry) (by kernel_rfl), run_add64 x y 0 hx hy (by omega) (by omega)]
  simp only [Result.andThen]
  rw [show (x + y + 0) % 18446744073709551616 = x + y by omega, show (x + y + 0) / 18446744073709551616 = 0 by omega]
end Go.Proofs.YtllipidegjpidaaGreatDoor
