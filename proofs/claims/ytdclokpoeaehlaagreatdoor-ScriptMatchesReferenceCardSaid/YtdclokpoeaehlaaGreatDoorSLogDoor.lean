/- What comes in, read for the walks: decisions, slices of them. -/
import Derived.Test.YtdclokpoeaehlaaGreatDoorSDoor
import Derived.Test.YtdclokpoeaehlaaGreatDoorGa
import Derived.Deep.Slices
import Derived.LaidOnce
namespace Go.Proofs.YtdclokpoeaehlaaGreatDoor
set_option linter.all false
open Go.ChangeShapes Go.WideShapes Go.ChangeAt Go.WideMaps Go.WideElems Go.RowKit

/-- A start at which every listed variable holds its data: the heap that the door's run leaves, and the one table that is held against a constant. -/
noncomputable def doorW (os : Os) : World :=
  { World.doorLaid Tryz.prog 104 os with heap := (World.doorLaid Tryz.prog 104 os).heap.modify 10 fun
    | .cells _ t z => .cells (Go.Pinned.utf8FirstZ.map fun (n : Nat) => Value.int .u8 (n : Int)).toArray t z
    | o => o }
set_option maxRecDepth 100000 in
theorem laidMet_bits {P : Program} {w : World} {l : List (String × DataW Unit)} (fuel M : Nat) (h : (DataW.laidRun P w fuel (l.map (·.1))).map (·.1) = some l)
    (hr : (DataW.laidRun P w fuel (l.map (·.1))).map (fun x => nodupBits M x.2 0 && laidRowsB P w x.2) = some true) : laidMet P l w := by
  refine laidMet_of_run' fuel h ?_
  cases hx : DataW.laidRun P w fuel (l.map (·.1)) with
  | none => rw [hx] at hr; cases hr
  | some x =>
    rw [hx] at hr
    simp only [Option.map_some, Option.some.injEq, Bool.and_eq_true] at hr ⊢
    exact ⟨decide_eq_true (nodupBits_sound hr.1).1, hr.2⟩
theorem cellsInt : Tryz.prog.cellsOf 3 = 1 := by kernel_rfl
theorem cellsDec : Tryz.prog.cellsOf 23 = 4 := by kernel_rfl
theorem bytesDec : Tryz.prog.bytesOf 23 = 32 := by kernel_rfl
theorem field_at {H : Type} {enc : TypeId × Value → H} {P : Program} {W : World} {base n : Nat} {sp : Nat → Bool} {held : Bool} {fs : Array Field} {cs : List Value} {xs : List (DataW H × List MemPlace)} (hlen : xs.length = fs.size)
    (hf : ∀ (i : Nat) (f : Field), fs[i]? = some f → DataW.trod enc P W base sp held n f.type ((cs.drop f.offset).take (P.cellsOf f.type)) = xs[i]?) (i : Nat) (f : Field) (h : fs[i]? = some f) :
    ∃ y, DataW.trod enc P W base sp held n f.type ((cs.drop f.offset).take (P.cellsOf f.type)) = some y := by
  have hi : i < fs.size := (Array.getElem?_eq_some_iff.1 h).1
  exact ⟨_, (hf i f h).trans (List.getElem?_eq_getElem (by rw [hlen]; exact hi))⟩
set_option maxRecDepth 100000 in
theorem list4 {α : Type} {l : List α} (h : l.length = 4) : ∃ c0 c1 c2 c3, l = [c0, c1, c2, c3] := by
  match l, h with
  | [c0, c1, c2, c3], _ => exact ⟨c0, c1, c2, c3, rfl⟩
set_option maxRecDepth 100000 in
/-- A decision's four cells, read. -/
theorem dec_of {H : Type} {enc : TypeId × Value → H} {W : World} {base fuel : Nat} {cs : List Value} {x : DataW H × List MemPlace} {sp : Nat → Bool} {held : Bool} (h : DataW.trod enc Tryz.prog W base sp held fuel 23 cs = some x) :
    ∃ q : Dec, cs = kDec.enc q := by
  obtain ⟨xs, n, _, _, hcl, hlen, hf⟩ := DataW.trod_struct Tryz.underlying23 h
  obtain ⟨c0, c1, c2, c3, rfl⟩ := list4 (hcl.trans cellsDec)
  obtain ⟨y0, h0⟩ := field_at hlen hf 0 _ rfl
  have g0 : DataW.trod enc Tryz.prog W base sp held n 3 (([c0, c1, c2, c3].drop 0).take (Tryz.prog.cellsOf 3)) = some y0 := h0
  rw [cellsInt] at g0
  replace h0 : DataW.trod enc Tryz.prog W base sp held n 3 [c0] = some y0 := g0
  obtain ⟨y1, h1⟩ := field_at hlen hf 1 _ rfl
  have g1 : DataW.trod enc Tryz.prog W base sp held n 3 (([c0, c1, c2, c3].drop 1).take (Tryz.prog.cellsOf 3)) = some y1 := h1
  rw [cellsInt] at g1
  replace h1 : DataW.trod enc Tryz.prog W base sp held n 3 [c1] = some y1 := g1
  obtain ⟨y2, h2⟩ := field_at hlen hf 2 _ rfl
  have g2 : DataW.trod enc Tryz.prog W base sp held n 3 (([c0, c1, c2, c3].drop 2).take (Tryz.prog.cellsOf 3)) = some y2 := h2
  rw [cellsInt] at g2
  replace h2 : DataW.trod enc Tryz.prog W base sp held n 3 [c2] = some y2 := g2
  obtain ⟨y3, h3⟩ := field_at hlen hf 3 _ rfl
  have g3 : DataW.trod enc Tryz.prog W base sp held n 3 (([c0, c1, c2, c3].drop 3).take (Tryz.prog.cellsOf 3)) = some y3 := h3
  rw [cellsInt] at g3
  replace h3 : DataW.trod enc Tryz.prog W base sp held n 3 [c3] = some y3 := g3
  clear hf
  obtain ⟨v0, e0, -, -⟩ := DataW.trod_int Tryz.underlying3 h0
  obtain ⟨v1, e1, -, -⟩ := DataW.trod_int Tryz.underlying3 h1
  obtain ⟨v2, e2, -, -⟩ := DataW.trod_int Tryz.underlying3 h2
  obtain ⟨v3, e3, -, -⟩ := DataW.trod_int Tryz.underlying3 h3
  simp only [List.cons.injEq, and_true] at e0 e1 e2 e3
  subst e0 e1 e2 e3
  exact ⟨⟨v0, v1, v2, v3⟩, rfl⟩
theorem addr_plain {W : World} {a : Addr} {v : Value} (h : W.cell? (a.add 0) = some v) : ∃ b off, a = ⟨b, off, none⟩ := by
  obtain ⟨b, off, spot⟩ := a
  have hspot : spot = none := by simpa [Addr.add] using World.cell?_spot h
  subst hspot
  exact ⟨b, off, rfl⟩
theorem choose_list {α : Type} [Inhabited α] {n : Nat} {P : Nat → α → Prop} (h : ∀ i, i < n → ∃ x, P i x) : ∃ l : List α, l.length = n ∧ ∀ i, (hi : i < l.length) → P i l[i] := by
  classical
  refine ⟨(List.range n).map fun i => if hi : i < n then Classical.choose (h i hi) else default, by simp, fun i hi => ?_⟩
  have hin : i < n := by simpa using hi
  simp only [List.getElem_map, List.getElem_range, hin, dif_pos]
  exact Classical.choose_spec (h i hin)
set_option maxRecDepth 100000 in
/-- A decision that came in by value. -/
theorem open_dec {H : Type} {enc : TypeId × Value → H} {W : World} {b0 : Nat} {r : Reach} {base : Nat} {sp : Nat → Bool} {held : Bool} {v : Value} {d : DataW H} {p : List MemPlace}
    (hv : Value.okWide Tryz.prog W r b0 23 v) (h : DataW.Trod enc Tryz.prog W base sp held 23 v d p) : ∃ q : Dec, v = .agg (kDec.enc q).toArray := by
  obtain ⟨cs, rfl, hsz⟩ := okWide_struct Tryz.underlying23 hv
  obtain ⟨fuel, hf⟩ := h
  obtain ⟨q, hq⟩ := dec_of hf
  refine ⟨q, ?_⟩
  obtain ⟨l⟩ := cs
  obtain rfl : l = kDec.enc q := hq
  rfl
instance : Inhabited Dec := ⟨⟨0, 0, 0, 0⟩⟩
/-- A slice of decisions that came in, as the walks read it. -/
theorem decs_of {H : Type} {enc : TypeId × Value → H} {W : World} {base : Nat} {a : Option Addr} {len cap fuel : Nat} {x : DataW H × List MemPlace} {sp : Nat → Bool} {held : Bool}
    (hf : DataW.trod enc Tryz.prog W base sp held fuel 32 [.slice a len cap] = some x) : ∃ ps : List Dec, ps.length = len ∧ kDec.At W (.slice a len cap) ps := by
  rcases Go.Deep.open_slice Tryz.underlying32 hf with ⟨hcs, _⟩ | ⟨y, l, c, m, n, D, Pl, hcs, _, hl, hm, hmm, hx, hi⟩
  · simp at hcs
    obtain ⟨rfl, rfl, rfl⟩ := hcs
    exact ⟨[], rfl, _, _, rfl, .inl rfl⟩
  · simp at hcs
    obtain ⟨rfl, rfl, rfl⟩ := hcs
    have hml : len ≤ m := by rw [hmm]; split <;> omega
    by_cases h0 : len = 0
    · subst h0; exact ⟨[], rfl, _, _, rfl, .inl rfl⟩
    have hcell : ∀ i, i < len → ∃ q : Dec, ∀ j u, (kDec.enc q)[j]? = some u → W.cell? (y.add (i * 4 + j)) = some u := fun i hil => by
      obtain ⟨cs', hc, ht⟩ := hi i (by omega)
      rw [cellsDec] at hc
      obtain ⟨q, rfl⟩ := dec_of ht
      obtain ⟨_, hcl, hat⟩ := World.cells?_some hc
      refine ⟨q, fun j u hu => ?_⟩
      have hj : j < 4 := by have := (List.getElem?_eq_some_iff.1 hu).1; rw [hcl] at this; exact this
      have := hat j hj
      rw [Go.Deep.add_add] at this
      rw [this]; exact hu
    obtain ⟨q0, h00⟩ := hcell 0 (by omega)
    obtain ⟨b, off, rfl⟩ := addr_plain (h00 0 _ rfl)
    obtain ⟨ps, hlo, ho⟩ := choose_list hcell
    subst hlo
    refine ⟨ps, rfl, _, cap, rfl, .inr ⟨b, off, rfl, ?_, fun k q hk i u hu => ?_⟩⟩
    · have := h00 0 _ rfl
      rw [add_mk] at this
      exact cell_lt this
    · obtain ⟨hkl, rfl⟩ := List.getElem?_eq_some_iff.1 hk
      have := ho k hkl i u hu
      rw [add_mk] at this
      rw [show off + k * kDec.size + i = off + (k * 4 + i) by show off + k * 4 + i = _; omega]
      exact this
/-- A slice that came in is no longer than its weight allows. -/
theorem sized_any {H : Type} {enc : TypeId × Value → H} {P : Program} {W : World} {base : Nat} {spare : Nat → Bool} {held : Bool} {t e : TypeId} {a : Option Addr} {len cap : Nat} {d : DataW H} {ps : List MemPlace} {ts : List TypeId} {ds : List (DataW H)} {j n : Nat}
    (hsz : (DataW.weightsEach P ts ds).all (· ≤ reachBytes) = true) (ht : ts[j]? = some t) (hd : ds[j]? = some d) (hu : P.underlying t = some (.slice e)) (hB : P.bytesOf e = n)
    (h : DataW.Trod enc P W base spare held t (.slice a len cap) d ps) : len * n ≤ 140737488351232 := by
  obtain ⟨fuel, hf⟩ := h
  rcases Go.Deep.open_slice hu hf with ⟨hcs, _⟩ | ⟨y, l, c, m, k, D, Pl, hcs, _, hl, hm, hmm, hx, hi⟩
  · simp [Value.cells] at hcs
    obtain ⟨rfl, rfl, rfl⟩ := hcs
    simp
  · simp [Value.cells] at hcs
    obtain ⟨rfl, rfl, rfl⟩ := hcs
    obtain ⟨hx, _⟩ := Prod.mk.inj hx
    subst hx
    have z := sized_slice hsz ht hd hu
    rw [hB] at z
    simp only [List.length_map, List.length_range] at z
    have z2 : len * n ≤ (len + (m - len)) * n := Nat.mul_le_mul_right n (by omega)
    unfold reachBytes at z
    omega
end Go.Proofs.YtdclokpoeaehlaaGreatDoor
