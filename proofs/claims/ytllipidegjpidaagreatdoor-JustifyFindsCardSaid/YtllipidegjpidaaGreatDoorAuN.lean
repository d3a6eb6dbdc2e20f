/- What hammocklaw26.awake calls: vec.both of vectors of one element. -/
import Derived.Test.YtllipidegjpidaaGreatDoorAuE
import Derived.Deep.RegionWith
namespace Go.Proofs.YtllipidegjpidaaGreatDoor
set_option linter.all false
open Go.RowKit

set_option maxRecDepth 100000 in
theorem fits1_any (x y : Int) (w : World) : Calls Tryz.prog 146 #[.int .i64 x, .int .i64 y] w fun e w' => e = .returned (.tuple #[.int .i64 0, .bool (decide (x ≤ y))]) ∧ w' = w := by
  go_enter Tryz.func146, Tryz.ntmps146
  go_wp2
  go_ret2
  exact ⟨rfl, rfl⟩
set_option maxHeartbeats 1000000 in
set_option maxRecDepth 100000 in
theorem both1_any (x y : Int) (b1 o1 c1 b2 o2 c2 : Nat) (w : World) (h1 : w.cell? ⟨b1, o1, none⟩ = some (.int .i64 x)) (h2 : w.cell? ⟨b2, o2, none⟩ = some (.int .i64 y)) :
    Calls Tryz.prog 145 #[.slice (some ⟨b1, o1, none⟩) 1 c1, .slice (some ⟨b2, o2, none⟩) 1 c2, .func (Fn.func 146) #[] #[]] w fun e w' => (∃ v, e = .returned (.tuple #[v, .bool (decide (x ≤ y))])) ∧ Below w.heap.size w w' := by
  have hmk : ∀ w : World, (Instr.makeSlice 35 (.int .i64 1) (.int .i64 1)).run Tryz.prog w = .ok (.slice (some ⟨w.heap.size, 0, none⟩) 1 1) (w.alloc (.cells (madeCells #[.int .i64 0] 1) 2)) := fun w => make_run 1 (by omega) w
  obtain ⟨X, hX⟩ : ∃ X, X = w.alloc (.cells (madeCells #[.int .i64 0] 1) 2) := ⟨_, rfl⟩
  have FX : From w X := by rw [hX]; exact (From.refl w).alloc _
  have m0 := (RowOf.made w 1 0 (by omega)).1
  have mf := (RowOf.made w 1 0 (by omega)).2
  rw [← hX] at m0 mf
  have g1 := FX.cell h1
  have g2 := FX.cell h2
  have HFA : Hid (∀ w', Calls Tryz.prog 146 #[.int .i64 x, .int .i64 y] w' fun e w'' => e = .returned (.tuple #[.int .i64 0, .bool (decide (x ≤ y))]) ∧ w'' = w') := fun w' => fits1_any x y w'
  have HB := Lib.hid FX
  clear FX
  generalize decide (x ≤ y) = q at *
  cases q
  all_goals
    go_enter Tryz.func145, Tryz.ntmps145
    go_wp2
    rw [← hX]
    have hXl : w.heap.size < X.heap.size := cell_lt m0
    clear hX
    refine wp_loop_rounds 2 ?_
    rw [rounds_succ]
    go_wp2
    go_region_with (go_at_call 146; refine (HFA.out _).mono ?_; rintro e v1 ⟨rfl, rfl⟩)
    all_goals
      have FY : From w X.drew := HB.out.drew
      have HY := Lib.hid FY
      clear FY
      go_wp2
      first
        | (go_ret2; exact ⟨⟨_, rfl⟩, HY.out.out⟩)
        | (rw [rounds_succ]; go_wp2; go_ret2; exact ⟨⟨_, rfl⟩, below_set HY.out.out (Nat.le_refl _) _⟩)
        | (go_ret2; exact ⟨⟨_, rfl⟩, below_set HY.out.out (Nat.le_refl _) _⟩)
        | fail
end Go.Proofs.YtllipidegjpidaaGreatDoor
