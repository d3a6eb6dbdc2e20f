/- Small words for walks: a world under a name at a call; a slice of two numbers. -/
import Derived.Test.YtcegipkhmibdeaaDoorPhaseRun
namespace Go.Proofs.YtcegipkhmibdeaaDoor
set_option linter.all false
open Go.RowKit

/-- At a call, the world gets a name. -/
theorem calls_named {P : Program} {f : Nat} {args : Array Value} {X : World} {Q : Ending → World → Prop} (h : ∀ W, W = X → Calls P f args W Q) : Calls P f args X Q := h X rfl
theorem cell_lt {w : World} {b o : Nat} {v : Value} (h : w.cell? ⟨b, o, none⟩ = some v) : b < w.heap.size := by
  rcases Nat.lt_or_ge b w.heap.size with h1 | h1
  · exact h1
  · simp [World.cell?, Array.getElem?_eq_none h1] at h
/-- A cell below the mark keeps what it holds. -/
theorem keepc {n b o : Nat} {w w' : World} {v : Value} (h : Below n w w') (hb : b < n) (hc : w.cell? ⟨b, o, none⟩ = some v) : w'.cell? ⟨b, o, none⟩ = some v := (h.cell (p := ⟨b, o, none⟩) hb).trans hc
theorem keepl {b o : Nat} {w w' : World} {v : Value} (h : Below w.heap.size w w') (hc : w.cell? ⟨b, o, none⟩ = some v) : w'.cell? ⟨b, o, none⟩ = some v := keepc h (cell_lt hc) hc
theorem ints2 {w : World} {b : Nat} {x y : Int} (h0 : w.cell? ⟨b, 0, none⟩ = some (.int .i64 x)) (h1 : w.cell? ⟨b, 1, none⟩ = some (.int .i64 y)) : IntsAt w (.slice (some ⟨b, 0, none⟩) 2 2) [x, y] :=
  ⟨_, _, rfl, .inr ⟨b, 0, rfl, cell_lt h0, fun j hj => by
    match j, hj with
    | 0, _ => exact h0
    | 1, _ => exact h1⟩⟩
end Go.Proofs.YtcegipkhmibdeaaDoor
