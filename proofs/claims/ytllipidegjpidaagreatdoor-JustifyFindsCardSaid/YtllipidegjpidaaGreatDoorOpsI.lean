/- Slices of int64 in a block of the call's own. -/
import Derived.Test.YtllipidegjpidaaGreatDoorKit
import Derived.Test.YtllipidegjpidaaGreatDoorInts
namespace Go.Proofs.YtllipidegjpidaaGreatDoor
set_option linter.all false
open Go.RowKit

/-- The slice's elements, in a block from B on. -/
def IntsNew (B : Nat) (w : World) (v : Value) (zs : List Int) : Prop :=
  ∃ a cap, v = .slice a zs.length cap ∧ (zs = [] ∨ ∃ b off, a = some ⟨b, off, none⟩ ∧ B ≤ b ∧ b < w.heap.size ∧ ∀ j, j < zs.length → w.cell? ⟨b, off + j, none⟩ = some (.int .i64 (zs.getD j 0)))
theorem IntsNew.at_ {B : Nat} {w : World} {v : Value} {zs : List Int} (h : IntsNew B w v zs) : IntsAt w v zs := by
  obtain ⟨a, cap, rfl, h | ⟨b, off, h1, _, h2, h3⟩⟩ := h
  · exact ⟨a, cap, rfl, .inl h⟩
  · exact ⟨a, cap, rfl, .inr ⟨b, off, h1, h2, h3⟩⟩
theorem IntsNew.below {B : Nat} {w w' : World} {v : Value} {zs : List Int} (h : IntsNew B w v zs) (hb : Below w.heap.size w w') : IntsNew B w' v zs := by
  obtain ⟨a, cap, rfl, h | ⟨b, off, rfl, h0, hlt, hc⟩⟩ := h
  · exact ⟨a, cap, rfl, .inl h⟩
  · exact ⟨_, cap, rfl, .inr ⟨b, off, rfl, h0, Nat.lt_of_lt_of_le hlt hb.size, fun j hj => (hb.cell (p := ⟨b, off + j, none⟩) hlt).trans (hc j hj)⟩⟩
theorem IntsNew.nil {B : Nat} {w : World} (a : Option Addr) (cp : Nat) : IntsNew B w (.slice a 0 cp) [] := ⟨a, cp, rfl, .inl rfl⟩
theorem new_of_row {w : World} {base : Nat} {E : TypeId} {v : Value} {zs : List Int} (h : w.ownsRow base E 1 v zs.length (zs.map (Value.int .i64))) : IntsNew base w v zs := by
  rcases h.2 with ⟨rfl, h0⟩ | ⟨g, cap, cur, rfl, hb, hg, hn, hc, hs, ht⟩
  · exact ⟨_, _, by rw [h0], .inl (List.eq_nil_of_length_eq_zero h0)⟩
  · refine ⟨_, cap, rfl, .inr ⟨g, 0, rfl, hb, (Array.getElem?_eq_some_iff.1 hg).1, fun j hj => ?_⟩⟩
    have h1 := h.cells (g := g) rfl j (.int .i64 (zs.getD j 0)) (by rw [List.getElem?_map, List.getElem?_eq_getElem hj, List.getD_eq_getElem?_getD, List.getElem?_eq_getElem hj]; rfl)
    rw [add_mk] at h1
    exact h1
theorem IntsNew.low {B B' : Nat} {w : World} {v : Value} {zs : List Int} (h : IntsNew B w v zs) (hb : B' ≤ B) : IntsNew B' w v zs := by
  obtain ⟨a, cap, rfl, h | ⟨b, off, h1, h2, h3⟩⟩ := h
  · exact ⟨a, cap, rfl, .inl h⟩
  · exact ⟨a, cap, rfl, .inr ⟨b, off, h1, by omega, h3⟩⟩
end Go.Proofs.YtllipidegjpidaaGreatDoor
