/- Slices of int64 that are read. -/
import Derived.Test.YtllipidegjpidaaGreatDoorKit
import Derived.Test.YtllipidegjpidaaGreatDoorProg
import Derived.Deep.LoopGhost
import Derived.Lib.Hide
import Derived.WalkSpells
import Derived.WalkLawsBesides
import Derived.Deep.Cut
import Derived.DeepKeys4
namespace Go.Proofs.YtllipidegjpidaaGreatDoor
set_option linter.all false
open Go.RowKit

/-- The slice's elements. -/
def IntsAt (w : World) (v : Value) (zs : List Int) : Prop :=
  ∃ a cap, v = .slice a zs.length cap ∧ (zs = [] ∨ ∃ b off, a = some ⟨b, off, none⟩ ∧ b < w.heap.size ∧ ∀ j, j < zs.length → w.cell? ⟨b, off + j, none⟩ = some (.int .i64 (zs.getD j 0)))
theorem IntsAt.below {w w' : World} {v : Value} {zs : List Int} (h : IntsAt w v zs) (hb : Below w.heap.size w w') : IntsAt w' v zs := by
  obtain ⟨a, cap, rfl, h | ⟨b, off, rfl, hlt, hc⟩⟩ := h
  · exact ⟨a, cap, rfl, .inl h⟩
  · exact ⟨_, cap, rfl, .inr ⟨b, off, rfl, Nat.lt_of_lt_of_le hlt hb.size, fun j hj => (hb.cell (p := ⟨b, off + j, none⟩) hlt).trans (hc j hj)⟩⟩
theorem IntsAt.from_ {w w' : World} {v : Value} {zs : List Int} (h : IntsAt w v zs) (hf : From w w') : IntsAt w' v zs := h.below hf.out
end Go.Proofs.YtllipidegjpidaaGreatDoor
