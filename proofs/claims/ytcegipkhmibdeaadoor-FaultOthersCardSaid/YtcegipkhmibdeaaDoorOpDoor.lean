/- What comes in, read for the walks: an operation by value, a slice of int64; what the listed handle gives. -/
import Derived.Test.YtcegipkhmibdeaaDoorDoor
import Derived.Test.YtcegipkhmibdeaaDoorOp
import Derived.Test.YtcegipkhmibdeaaDoorAs
import Derived.LaidHandle
import Derived.Lib.SmallJoins
namespace Go.Proofs.YtcegipkhmibdeaaDoor
set_option linter.all false
open Go.ChangeShapes Go.WideShapes Go.ChangeAt Go.WideMaps Go.WideElems Go.RowKit

theorem gErr : Tryd.prog.globalNamed "errors.errorType" = some 3 := by kernel_rfl
theorem tErr : (Tryd.prog.cutTypes.find? (·.1 == "internal/reflectlite.rtype")).map (·.2) = some 172 := by kernel_rfl
theorem errRow : ((List.range Tryd.prog.types.size).filter fun t => Tryd.prog.rowNamed t [101, 114, 114, 111, 114]) = [47] := by kernel_rfl
theorem errHandle : typeHandle Tryd.prog 47 = .pointer (some ⟨7, 47, none⟩) := by kernel_rfl
theorem errType_of_handles {W : World} {l : List (String × DataW Unit)} (h : handlesMet Tryd.prog l W) (hx : ("errors.errorType", Rows.laid_errors_errorType) ∈ l) : ErrType W := by
  have h' : ∃ name u ty, (Rows.laid_errors_errorType (H := Unit)).handleName? = some name ∧ (Tryd.prog.cutTypes.find? (·.1 == "internal/reflectlite.rtype")).map (·.2) = some u ∧ ty < Tryd.prog.types.size ∧ Tryd.prog.rowNamed ty name = true ∧
      W.var? Tryd.prog "errors.errorType" = some #[.iface u (.agg #[typeHandle Tryd.prog ty])] := h _ hx
  obtain ⟨name, u, ty, e1, e2, e3, e4, e5⟩ := h'
  have en : name = [101, 114, 114, 111, 114] := (Option.some.inj e1).symm
  subst en
  obtain rfl := Option.some.inj (tErr.symm.trans e2)
  have hm : ty ∈ (List.range Tryd.prog.types.size).filter fun t => Tryd.prog.rowNamed t [101, 114, 114, 111, 114] := List.mem_filter.2 ⟨List.mem_range.2 e3, e4⟩
  rw [errRow] at hm
  obtain rfl := List.mem_singleton.1 hm
  rw [errHandle] at e5
  simpa [ErrType] using World.var?_cell gErr e5 0

/-- A slice of int64 that came in, as the walks read it. -/
theorem ints64_of {H : Type} {enc : TypeId × Value → H} {W : World} {base : Nat} {a : Option Addr} {len cap fuel : Nat} {x : DataW H × List MemPlace} {sp : Nat → Bool} {held : Bool}
    (hf : DataW.trod enc Tryd.prog W base sp held fuel 39 [.slice a len cap] = some x) : ∃ zs, zs.length = len ∧ IntsAt W (.slice a len cap) zs := by
  rcases open_ints Tryd.underlying39 Tryd.underlying2 (by kernel_rfl) hf with ⟨hcs, _⟩ | ⟨y, l, c, zs, hcs, _, hl, hm, hz, hx, hcell, hwz⟩
  · simp at hcs
    obtain ⟨rfl, rfl, rfl⟩ := hcs
    exact ⟨[], rfl, _, _, rfl, .inl rfl⟩
  · simp at hcs
    obtain ⟨rfl, rfl, rfl⟩ := hcs
    have hzl : len ≤ zs.length := by rw [hz]; split <;> omega
    by_cases h0 : len = 0
    · subst h0; exact ⟨[], rfl, _, _, rfl, .inl rfl⟩
    · obtain ⟨b, off, rfl, hc⟩ := ints_at hcell (by omega)
      have hb : b < W.heap.size := by
        have := hc 0 (by omega)
        rcases Nat.lt_or_ge b W.heap.size with h1 | h1
        · exact h1
        · simp [World.cell?, Array.getElem?_eq_none h1] at this
      refine ⟨zs.take len, by simp; omega, _, cap, by simp [Nat.min_eq_left hzl], .inr ⟨b, off, rfl, hb, fun j hj => ?_⟩⟩
      simp only [List.length_take] at hj
      rw [hc j (by omega), List.getD_eq_getElem?_getD, List.getD_eq_getElem?_getD, List.getElem?_take, if_pos (by omega)]

theorem array6 {α : Type} {cs : Array α} (h : cs.size = 6) : ∃ c0 c1 c2 c3 c4 c5, cs = #[c0, c1, c2, c3, c4, c5] := by
  obtain ⟨l⟩ := cs
  match l, h with
  | [c0, c1, c2, c3, c4, c5], _ => exact ⟨c0, c1, c2, c3, c4, c5, rfl⟩
theorem cellsOp : Tryd.prog.cellsOf 41 = 6 := by kernel_rfl
theorem cellsInt : Tryd.prog.cellsOf 3 = 1 := by kernel_rfl
theorem cellsBool : Tryd.prog.cellsOf 4 = 1 := by kernel_rfl
theorem cellsI64s : Tryd.prog.cellsOf 39 = 1 := by kernel_rfl
/-- One field of a struct that came in. -/
theorem field_at {H : Type} {enc : TypeId × Value → H} {P : Program} {W : World} {base n : Nat} {sp : Nat → Bool} {held : Bool} {fs : Array Field} {cs : List Value} {xs : List (DataW H × List MemPlace)} (hlen : xs.length = fs.size)
    (hf : ∀ (i : Nat) (f : Field), fs[i]? = some f → DataW.trod enc P W base sp held n f.type ((cs.drop f.offset).take (P.cellsOf f.type)) = xs[i]?) (i : Nat) (f : Field) (h : fs[i]? = some f) :
    ∃ y, DataW.trod enc P W base sp held n f.type ((cs.drop f.offset).take (P.cellsOf f.type)) = some y := by
  have hi : i < fs.size := (Array.getElem?_eq_some_iff.1 h).1
  exact ⟨_, (hf i f h).trans (List.getElem?_eq_getElem (by rw [hlen]; exact hi))⟩
set_option maxRecDepth 100000 in
/-- An operation that came in by value. -/
theorem open_op {H : Type} {enc : TypeId × Value → H} {W : World} {b0 : Nat} {r : Reach} {base : Nat} {sp : Nat → Bool} {held : Bool} {v : Value} {d : DataW H} {p : List MemPlace}
    (hv : Value.okWide Tryd.prog W r b0 41 v) (h : DataW.Trod enc Tryd.prog W base sp held 41 v d p) :
    ∃ k i c n f a l cp zs, v = opV k i c n f (.slice a l cp) ∧ zs.length = l ∧ IntsAt W (.slice a l cp) zs := by
  have hs := Tryd.underlying41
  obtain ⟨cs, rfl, hsz⟩ := okWide_struct hs hv
  obtain ⟨c0, c1, c2, c3, c4, c5, rfl⟩ := array6 (hsz.trans cellsOp)
  obtain ⟨fuel, hf⟩ := h
  obtain ⟨xs, n, _, _, _, hlen, hf⟩ := DataW.trod_struct hs hf
  change ∀ (i : Nat) (f : Field), _ → DataW.trod enc Tryd.prog W base sp held n f.type (([c0, c1, c2, c3, c4, c5].drop f.offset).take (Tryd.prog.cellsOf f.type)) = xs[i]? at hf
  obtain ⟨y0, h0⟩ := field_at hlen hf 0 _ rfl
  obtain ⟨y1, h1⟩ := field_at hlen hf 1 _ rfl
  obtain ⟨y2, h2⟩ := field_at hlen hf 2 _ rfl
  obtain ⟨y3, h3⟩ := field_at hlen hf 3 _ rfl
  obtain ⟨y4, h4⟩ := field_at hlen hf 4 _ rfl
  obtain ⟨y5, h5⟩ := field_at hlen hf 5 _ rfl
  clear hf
  have g0 : DataW.trod enc Tryd.prog W base sp held n 3 (([c0, c1, c2, c3, c4, c5].drop 0).take (Tryd.prog.cellsOf 3)) = some y0 := h0
  rw [cellsInt] at g0
  replace h0 : DataW.trod enc Tryd.prog W base sp held n 3 [c0] = some y0 := g0
  have g1 : DataW.trod enc Tryd.prog W base sp held n 3 (([c0, c1, c2, c3, c4, c5].drop 1).take (Tryd.prog.cellsOf 3)) = some y1 := h1
  rw [cellsInt] at g1
  replace h1 : DataW.trod enc Tryd.prog W base sp held n 3 [c1] = some y1 := g1
  have g2 : DataW.trod enc Tryd.prog W base sp held n 3 (([c0, c1, c2, c3, c4, c5].drop 2).take (Tryd.prog.cellsOf 3)) = some y2 := h2
  rw [cellsInt] at g2
  replace h2 : DataW.trod enc Tryd.prog W base sp held n 3 [c2] = some y2 := g2
  have g3 : DataW.trod enc Tryd.prog W base sp held n 3 (([c0, c1, c2, c3, c4, c5].drop 3).take (Tryd.prog.cellsOf 3)) = some y3 := h3
  rw [cellsInt] at g3
  replace h3 : DataW.trod enc Tryd.prog W base sp held n 3 [c3] = some y3 := g3
  have g4 : DataW.trod enc Tryd.prog W base sp held n 4 (([c0, c1, c2, c3, c4, c5].drop 4).take (Tryd.prog.cellsOf 4)) = some y4 := h4
  rw [cellsBool] at g4
  replace h4 : DataW.trod enc Tryd.prog W base sp held n 4 [c4] = some y4 := g4
  have g5 : DataW.trod enc Tryd.prog W base sp held n 39 (([c0, c1, c2, c3, c4, c5].drop 5).take (Tryd.prog.cellsOf 39)) = some y5 := h5
  rw [cellsI64s] at g5
  replace h5 : DataW.trod enc Tryd.prog W base sp held n 39 [c5] = some y5 := g5
  obtain ⟨k, e0, -, -⟩ := DataW.trod_int Tryd.underlying3 h0
  obtain ⟨i, e1, -, -⟩ := DataW.trod_int Tryd.underlying3 h1
  obtain ⟨c, e2, -, -⟩ := DataW.trod_int Tryd.underlying3 h2
  obtain ⟨m, e3, -, -⟩ := DataW.trod_int Tryd.underlying3 h3
  obtain ⟨f, e4, -⟩ := DataW.trod_bool Tryd.underlying4 h4
  obtain ⟨a, l, cp, e5⟩ := Go.Joins.slice_form Tryd.underlying39 h5
  simp only [List.cons.injEq, and_true] at e0 e1 e2 e3 e4 e5
  subst e0 e1 e2 e3 e4 e5
  obtain ⟨zs, hl, hI⟩ := ints64_of h5
  exact ⟨k, i, c, m, f, a, l, cp, zs, rfl, hl, hI⟩
end Go.Proofs.YtcegipkhmibdeaaDoor
