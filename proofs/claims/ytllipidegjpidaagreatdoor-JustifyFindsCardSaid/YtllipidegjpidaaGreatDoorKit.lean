/- Small words for walks: worlds under a name, cells that are kept, rows. -/
import Derived.WalkKit
import Derived.Below
import Derived.Lib.Hide
import Derived.Deep.LoopGhost
import Derived.Laws.OwnMore
import Derived.Deep.QuietTactic
namespace Go.Proofs.YtllipidegjpidaaGreatDoor
set_option linter.all false
open Go.RowKit

theorem bcell {W w1 : World} (hb : Below W.heap.size W w1) : (∀ b o, b < W.heap.size → w1.cell? ⟨b, o, none⟩ = W.cell? ⟨b, o, none⟩) ∧ (∀ b o, b < W.heap.size → w1.frozen? ⟨b, o, none⟩ = W.frozen? ⟨b, o, none⟩) :=
  ⟨fun b o h => hb.cell (p := ⟨b, o, none⟩) h, fun b o h => hb.frozen (p := ⟨b, o, none⟩) h⟩
/-- At a call, the world gets a name. -/
theorem calls_named {P : Program} {f : Nat} {args : Array Value} {X : World} {Q : Ending → World → Prop} (h : ∀ W, W = X → Calls P f args W Q) : Calls P f args X Q := h X rfl
/-- A statement goes on in a world that gets a name. -/
theorem wp_named {c : Code} {P : Program} {Q : Exit → Act → World → Prop} {a : Act} {X : World} (h : ∀ W, W = X → c.wp P Q a W) : c.wp P Q a X := h X rfl
theorem cell_lt {w : World} {b o : Nat} {v : Value} (h : w.cell? ⟨b, o, none⟩ = some v) : b < w.heap.size := by
  rcases Nat.lt_or_ge b w.heap.size with h1 | h1
  · exact h1
  · simp [World.cell?, Array.getElem?_eq_none h1] at h
/-- A cell below the mark keeps what it holds. -/
theorem keepc {n b o : Nat} {w w' : World} {v : Value} (h : Below n w w') (hb : b < n) (hc : w.cell? ⟨b, o, none⟩ = some v) : w'.cell? ⟨b, o, none⟩ = some v := (h.cell (p := ⟨b, o, none⟩) hb).trans hc
theorem keepl {b o : Nat} {w w' : World} {v : Value} (h : Below w.heap.size w w') (hc : w.cell? ⟨b, o, none⟩ = some v) : w'.cell? ⟨b, o, none⟩ = some v := keepc h (cell_lt hc) hc
theorem add_mk (b off j : Nat) : (⟨b, off, none⟩ : Addr).add j = ⟨b, off + j, none⟩ := by unfold Addr.add; split <;> simp_all
theorem ownsRow_shape {w : World} {base E size n : Nat} {v : Value} {xs : List Value} (h : w.ownsRow base E size v n xs) : ∃ a cap, v = .slice a n cap := by
  rcases h.2 with ⟨rfl, rfl⟩ | ⟨g, cap, cur, rfl, _⟩
  · exact ⟨_, _, rfl⟩
  · exact ⟨_, _, rfl⟩
theorem ownsRow_low {w : World} {base base' E size n : Nat} {v : Value} {xs : List Value} (h : w.ownsRow base E size v n xs) (hb : base' ≤ base) : w.ownsRow base' E size v n xs := by
  refine ⟨h.1, ?_⟩
  rcases h.2 with h2 | ⟨g, cap, cur, hv, hg, r⟩
  · exact .inl h2
  · exact .inr ⟨g, cap, cur, hv, Nat.le_trans hb hg, r⟩
theorem ownsRow_below {w w' : World} {base E size n : Nat} {v : Value} {xs : List Value} (h : w.ownsRow base E size v n xs) (hb : Below w.heap.size w w') : w'.ownsRow base E size v n xs := by
  refine ⟨h.1, ?_⟩
  rcases h.2 with h2 | ⟨g, cap, cur, hv, hg, hh, r⟩
  · exact .inl h2
  · exact .inr ⟨g, cap, cur, hv, hg, by rw [hb.block g (Array.getElem?_eq_some_iff.1 hh).1]; exact hh, r⟩
/-- w came of a by new memory and draws alone. -/
structure From (a w : World) : Prop where
  out : Below a.heap.size a w
theorem From.refl (a : World) : From a a := ⟨Below.refl _ _⟩
theorem From.drew {a w : World} (h : From a w) : From a w.drew := ⟨h.out.drew⟩
theorem From.drewN {a w : World} (h : From a w) (n : Nat) : From a (w.drewN n) := ⟨⟨h.out.os, h.out.tape, h.out.output, h.out.size, h.out.block⟩⟩
theorem From.alloc {a w : World} (h : From a w) (o : Obj) : From a (w.alloc o) := ⟨h.out.alloc h.out.size _⟩
theorem From.step {a w w' : World} (h : From a w) (hb : Below w.heap.size w w') : From a w' := ⟨h.out.trans (hb.mono h.out.size)⟩
theorem From.trans {a w w' : World} (h : From a w) (k : From w w') : From a w' := h.step k.out
theorem From.cell {a w : World} (h : From a w) {b o : Nat} {v : Value} (hc : a.cell? ⟨b, o, none⟩ = some v) : w.cell? ⟨b, o, none⟩ = some v := keepl h.out hc
theorem below_set {B b o : Nat} {w w' : World} (h : Below B w w') (hb : B ≤ b) (v : Value) : Below B w (w'.setCell ⟨b, o, none⟩ v) := h.setCell hb v
theorem below_draws {B : Nat} {w w' : World} (h : Below B w w') (n : Nat) : Below B w (w'.drewN n) := ⟨h.os, h.tape, h.output, h.size, h.block⟩
end Go.Proofs.YtllipidegjpidaaGreatDoor
