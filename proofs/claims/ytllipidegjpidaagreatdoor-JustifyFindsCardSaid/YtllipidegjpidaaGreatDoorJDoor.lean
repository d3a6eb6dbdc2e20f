/- What comes in, read for the walk: slices of decisions; the law, whatever comes. -/
import Derived.Test.YtllipidegjpidaaGreatDoorDoor
import Derived.Test.YtllipidegjpidaaGreatDoorKD
import Derived.Deep.Slices
import Derived.LaidOnce
namespace Go.Proofs.YtllipidegjpidaaGreatDoor
set_option linter.all false
open Go.ChangeShapes Go.WideShapes Go.ChangeAt Go.WideMaps Go.WideElems Go.RowKit

theorem cellsInt : Tryz.prog.cellsOf 3 = 1 := by kernel_rfl
theorem cellsDec : Tryz.prog.cellsOf 26 = 4 := by kernel_rfl
theorem bytesDec : Tryz.prog.bytesOf 26 = 32 := by kernel_rfl
theorem field_at {H : Type} {enc : TypeId × Value → H} {P : Program} {W : World} {base n : Nat} {sp : Nat → Bool} {held : Bool} {fs : Array Field} {cs : List Value} {xs : List (DataW H × List MemPlace)} (hlen : xs.length = fs.size)
    (hf : ∀ (i : Nat) (f : Field), fs[i]? = some f → DataW.trod enc P W base sp held n f.type ((cs.drop f.offset).take (P.cellsOf f.type)) = xs[i]?) (i : Nat) (f : Field) (h : fs[i]? = some f) :
    ∃ y, DataW.trod enc P W base sp held n f.type ((cs.drop f.offset).take (P.cellsOf f.type)) = some y := by
  have hi : i < fs.size := (Array.getElem?_eq_some_iff.1 h).1
  exact ⟨_, (hf i f h).trans (List.getElem?_eq_getElem (by rw [hlen]; exact hi))⟩
set_option maxRecDepth 100000 in
theorem list4 {α : Type} {l : List α} (h : l.length = 4) : ∃ c0 c1 c2 c3, l = [c0, c1, c2, c3] := by
  match l, h with
  | [c0, c1, c2, c3], _ => exact ⟨c0, c1, c2, c3, rfl⟩
set_option maxRecDepth 100000 in
/-- A decision's four cells, read. -/
theorem dec_of {H : Type} {enc : TypeId × Value → H} {W : World} {base fuel : Nat} {cs : List Value} {x : DataW H × List MemPlace} {sp : Nat → Bool} {held : Bool} (h : DataW.trod enc Tryz.prog W base sp held fuel 26 cs = some x) :
    ∃ q : Dec, cs = kDec.enc q := by
  obtain ⟨xs, n, _, _, hcl, hlen, hf⟩ := DataW.trod_struct Tryz.underlying26 h
  obtain ⟨c0, c1, c2, c3, rfl⟩ := list4 (hcl.trans cellsDec)
  obtain ⟨y0, h0⟩ := field_at hlen hf 0 _ rfl
  have g0 : DataW.trod enc Tryz.prog W base sp held n 3 (([c0, c1, c2, c3].drop 0).take (Tryz.prog.cellsOf 3)) = some y0 := h0
  rw [cellsInt] at g0
  replace h0 : DataW.trod enc Tryz.prog W base sp held n 3 [c0] = some y0 := g0
  obtain ⟨y1, h1⟩ := field_at hlen hf 1 _ rfl
  have g1 : DataW.trod enc Tryz.prog W base sp held n 3 (([c0, c1, c2, c3].drop 1).take (Tryz.prog.cellsOf 3)) = some y1 := h1
  rw [cellsInt] at g1
  replace h1 : DataW.trod enc Tryz.prog W base sp held n 3 [c1] = some y1 := g1
  obtain ⟨y2, h2⟩ := field_at hlen hf 2 _ rfl
  have g2 : DataW.trod enc Tryz.prog W base sp held n 3 (([c0, c1, c2, c3].drop 2).take (Tryz.prog.cellsOf 3)) = some y2 := h2
  rw [cellsInt] at g2
  replace h2 : DataW.trod enc Tryz.prog W base sp held n 3 [c2] = some y2 := g2
  obtain ⟨y3, h3⟩ := field_at hlen hf 3 _ rfl
  have g3 : DataW.trod enc Tryz.prog W base sp held n 3 (([c0, c1, c2, c3].drop 3).take (Tryz.prog.cellsOf 3)) = some y3 := h3
  rw [cellsInt] at g3
  replace h3 : DataW.trod enc Tryz.prog W base sp held n 3 [c3] = some y3 := g3
  clear hf
  obtain ⟨v0, e0, -, -⟩ := DataW.trod_int Tryz.underlying3 h0
  obtain ⟨v1, e1, -, -⟩ := DataW.trod_int Tryz.underlying3 h1
  obtain ⟨v2, e2, -, -⟩ := DataW.trod_int Tryz.underlying3 h2
  obtain ⟨v3, e3, -, -⟩ := DataW.trod_int Tryz.underlying3 h3
  simp only [List.cons.injEq, and_true] at e0 e1 e2 e3
  subst e0 e1 e2 e3
  exact ⟨⟨v0, v1, v2, v3⟩, rfl⟩
theorem addr_plain {W : World} {a : Addr} {v : Value} (h : W.cell? (a.add 0) = some v) : ∃ b off, a = ⟨b, off, none⟩ := by
  obtain ⟨b, off, spot⟩ := a
  have hspot : spot = none := by simpa [Addr.add] using World.cell?_spot h
  subst hspot
  exact ⟨b, off, rfl⟩
theorem choose_list {α : Type} [Inhabited α] {n : Nat} {P : Nat → α → Prop} (h : ∀ i, i < n → ∃ x, P i x) : ∃ l : List α, l.length = n ∧ ∀ i, (hi : i < l.length) → P i l[i] := by
  classical
  refine ⟨(List.range n).map fun i => if hi : i < n then Classical.choose (h i hi) else default, by simp, fun i hi => ?_⟩
  have hin : i < n := by simpa using hi
  simp only [List.getElem_map, List.getElem_range, hin, dif_pos]
  exact Classical.choose_spec (h i hin)
instance : Inhabited Dec := ⟨⟨0, 0, 0, 0⟩⟩
/-- A slice of decisions that came in, as the walks read it. -/
theorem decs_of {H : Type} {enc : TypeId × Value → H} {W : World} {base : Nat} {a : Option Addr} {len cap fuel : Nat} {x : DataW H × List MemPlace} {sp : Nat → Bool} {held : Bool}
    (hf : DataW.trod enc Tryz.prog W base sp held fuel 22 [.slice a len cap] = some x) : ∃ ps : List Dec, ps.length = len ∧ kDec.At W (.slice a len cap) ps := by
  rcases Go.Deep.open_slice Tryz.underlying22 hf with ⟨hcs, _⟩ | ⟨y, l, c, m, n, D, Pl, hcs, _, hl, hm, hmm, hx, hi⟩
  · simp at hcs
    obtain ⟨rfl, rfl, rfl⟩ := hcs
    exact ⟨[], rfl, _, _, rfl, .inl rfl⟩
  · simp at hcs
    obtain ⟨rfl, rfl, rfl⟩ := hcs
    have hml : len ≤ m := by rw [hmm]; split <;> omega
    by_cases h0 : len = 0
    · subst h0; exact ⟨[], rfl, _, _, rfl, .inl rfl⟩
    have hcell : ∀ i, i < len → ∃ q : Dec, ∀ j u, (kDec.enc q)[j]? = some u → W.cell? (y.add (i * 4 + j)) = some u := fun i hil => by
      obtain ⟨cs', hc, ht⟩ := hi i (by omega)
      rw [cellsDec] at hc
      obtain ⟨q, rfl⟩ := dec_of ht
      obtain ⟨_, hcl, hat⟩ := World.cells?_some hc
      refine ⟨q, fun j u hu => ?_⟩
      have hj : j < 4 := by have := (List.getElem?_eq_some_iff.1 hu).1; rw [hcl] at this; exact this
      have := hat j hj
      rw [Go.Deep.add_add] at this
      rw [this]; exact hu
    obtain ⟨q0, h00⟩ := hcell 0 (by omega)
    obtain ⟨b, off, rfl⟩ := addr_plain (h00 0 _ rfl)
    obtain ⟨ps, hlo, ho⟩ := choose_list hcell
    subst hlo
    refine ⟨ps, rfl, _, cap, rfl, .inr ⟨b, off, rfl, ?_, fun k q hk i u hu => ?_⟩⟩
    · have := h00 0 _ rfl
      rw [add_mk] at this
      exact cell_lt this
    · obtain ⟨hkl, rfl⟩ := List.getElem?_eq_some_iff.1 hk
      have := ho k hkl i u hu
      rw [add_mk] at this
      rw [show off + k * kDec.size + i = off + (k * 4 + i) by show off + k * 4 + i = _; omega]
      exact this
/-- JustifyFinds, whatever the decisions. -/
theorem justifyFinds_walk (a : Option Addr) (len cap : Nat) (ds : List Dec) (kind id : Int) (w : World) (hl : ds.length = len) (h : kDec.At w (.slice a len cap) ds)
    (hL : w.cell? ⟨2, 1, none⟩ = some (.string ⟨#[112, 101, 110, 100, 105, 110, 103]⟩) ∧ VNamesAt w) :
    Calls Tryz.prog 3 #[.slice a len cap, .int .i64 kind, .int .i64 id] w fun e w' => e = .returned (.bool true) ∧ Below w.heap.size w w' := by
  have hs : (⟨#[112, 101, 110, 100, 105, 110, 103]⟩ : ByteArray).toList.isEmpty = false := by first | kernel_rfl | rfl | (simp; done)
  subst hl
  by_cases hb : ds.length ≤ 50
  · cases hf : ds.findIdx? (isD kind id) with
    | none =>
      exact finds_miss _ ds kind id w _ hs hL.1 hL.2 h hb (by unfold findD; rw [hf])
    | some k =>
      have hk : k < ds.length := (List.findIdx?_eq_some_iff_getElem.1 hf).1
      exact finds_hit _ ds kind id w _ hs hL.1 hL.2 h hb k hk (by unfold findD; rw [hf])
  · exact finds_many a ds.length cap kind id w _ hs hL.1 hL.2 hb
end Go.Proofs.YtllipidegjpidaaGreatDoor
