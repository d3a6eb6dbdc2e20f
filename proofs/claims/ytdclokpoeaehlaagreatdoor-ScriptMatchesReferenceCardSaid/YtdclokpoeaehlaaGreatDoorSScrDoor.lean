/- What comes in, read for the walks: an operation by value, slices of operations; what the rows of the script's laws lay. -/
import Derived.Test.YtdclokpoeaehlaaGreatDoorSLogDoor
import Derived.Test.YtdclokpoeaehlaaGreatDoorSScrP
namespace Go.Proofs.YtdclokpoeaehlaaGreatDoor
set_option linter.all false
open Go.ChangeShapes Go.WideShapes Go.ChangeAt Go.WideMaps Go.WideElems Go.RowKit

/-- A slice of int64 that came in, as the walks read it. -/
theorem ints64_of {H : Type} {enc : TypeId × Value → H} {W : World} {base : Nat} {a : Option Addr} {len cap fuel : Nat} {x : DataW H × List MemPlace} {sp : Nat → Bool} {held : Bool}
    (hf : DataW.trod enc Tryz.prog W base sp held fuel 56 [.slice a len cap] = some x) : ∃ zs, zs.length = len ∧ IntsAt W (.slice a len cap) zs := by
  rcases open_ints Tryz.underlying56 Tryz.underlying2 (by kernel_rfl) hf with ⟨hcs, _⟩ | ⟨y, l, c, zs, hcs, _, hl, hm, hz, hx, hcell, hwz⟩
  · simp at hcs
    obtain ⟨rfl, rfl, rfl⟩ := hcs
    exact ⟨[], rfl, _, _, rfl, .inl rfl⟩
  · simp at hcs
    obtain ⟨rfl, rfl, rfl⟩ := hcs
    have hzl : len ≤ zs.length := by rw [hz]; split <;> omega
    by_cases h0 : len = 0
    · subst h0; exact ⟨[], rfl, _, _, rfl, .inl rfl⟩
    · obtain ⟨b, off, rfl, hc⟩ := ints_at hcell (by omega)
      have hb : b < W.heap.size := by
        have := hc 0 (by omega)
        rcases Nat.lt_or_ge b W.heap.size with h1 | h1
        · exact h1
        · simp [World.cell?, Array.getElem?_eq_none h1] at this
      refine ⟨zs.take len, by simp; omega, _, cap, by simp [Nat.min_eq_left hzl], .inr ⟨b, off, rfl, hb, fun j hj => ?_⟩⟩
      simp only [List.length_take] at hj
      rw [hc j (by omega), List.getD_eq_getElem?_getD, List.getD_eq_getElem?_getD, List.getElem?_take, if_pos (by omega)]
theorem list6 {α : Type} {l : List α} (h : l.length = 6) : ∃ c0 c1 c2 c3 c4 c5, l = [c0, c1, c2, c3, c4, c5] := by
  match l, h with
  | [c0, c1, c2, c3, c4, c5], _ => exact ⟨c0, c1, c2, c3, c4, c5, rfl⟩
theorem cellsOp : Tryz.prog.cellsOf 58 = 6 := by kernel_rfl
theorem bytesOp : Tryz.prog.bytesOf 58 = 64 := by kernel_rfl
theorem cellsBool : Tryz.prog.cellsOf 4 = 1 := by kernel_rfl
theorem cellsI64s : Tryz.prog.cellsOf 56 = 1 := by kernel_rfl
set_option maxRecDepth 100000 in
/-- An operation's six cells, read. -/
theorem op_of {H : Type} {enc : TypeId × Value → H} {W : World} {base fuel : Nat} {cs : List Value} {x : DataW H × List MemPlace} {sp : Nat → Bool} {held : Bool} (h : DataW.trod enc Tryz.prog W base sp held fuel 58 cs = some x) :
    ∃ (q : OpR) (o : OpS), cs = kOp.enc q ∧ OpIs W none q o := by
  obtain ⟨xs, n, _, _, hcl, hlen, hf⟩ := DataW.trod_struct Tryz.underlying58 h
  obtain ⟨c0, c1, c2, c3, c4, c5, rfl⟩ := list6 (hcl.trans cellsOp)
  obtain ⟨y0, h0⟩ := field_at hlen hf 0 _ rfl
  have g0 : DataW.trod enc Tryz.prog W base sp held n 3 (([c0, c1, c2, c3, c4, c5].drop 0).take (Tryz.prog.cellsOf 3)) = some y0 := h0
  rw [cellsInt] at g0
  replace h0 : DataW.trod enc Tryz.prog W base sp held n 3 [c0] = some y0 := g0
  obtain ⟨y1, h1⟩ := field_at hlen hf 1 _ rfl
  have g1 : DataW.trod enc Tryz.prog W base sp held n 3 (([c0, c1, c2, c3, c4, c5].drop 1).take (Tryz.prog.cellsOf 3)) = some y1 := h1
  rw [cellsInt] at g1
  replace h1 : DataW.trod enc Tryz.prog W base sp held n 3 [c1] = some y1 := g1
  obtain ⟨y2, h2⟩ := field_at hlen hf 2 _ rfl
  have g2 : DataW.trod enc Tryz.prog W base sp held n 3 (([c0, c1, c2, c3, c4, c5].drop 2).take (Tryz.prog.cellsOf 3)) = some y2 := h2
  rw [cellsInt] at g2
  replace h2 : DataW.trod enc Tryz.prog W base sp held n 3 [c2] = some y2 := g2
  obtain ⟨y3, h3⟩ := field_at hlen hf 3 _ rfl
  have g3 : DataW.trod enc Tryz.prog W base sp held n 3 (([c0, c1, c2, c3, c4, c5].drop 3).take (Tryz.prog.cellsOf 3)) = some y3 := h3
  rw [cellsInt] at g3
  replace h3 : DataW.trod enc Tryz.prog W base sp held n 3 [c3] = some y3 := g3
  obtain ⟨y4, h4⟩ := field_at hlen hf 4 _ rfl
  have g4 : DataW.trod enc Tryz.prog W base sp held n 4 (([c0, c1, c2, c3, c4, c5].drop 4).take (Tryz.prog.cellsOf 4)) = some y4 := h4
  rw [cellsBool] at g4
  replace h4 : DataW.trod enc Tryz.prog W base sp held n 4 [c4] = some y4 := g4
  obtain ⟨y5, h5⟩ := field_at hlen hf 5 _ rfl
  have g5 : DataW.trod enc Tryz.prog W base sp held n 56 (([c0, c1, c2, c3, c4, c5].drop 5).take (Tryz.prog.cellsOf 56)) = some y5 := h5
  rw [cellsI64s] at g5
  replace h5 : DataW.trod enc Tryz.prog W base sp held n 56 [c5] = some y5 := g5
  clear hf
  obtain ⟨v0, e0, -, -⟩ := DataW.trod_int Tryz.underlying3 h0
  obtain ⟨v1, e1, -, -⟩ := DataW.trod_int Tryz.underlying3 h1
  obtain ⟨v2, e2, -, -⟩ := DataW.trod_int Tryz.underlying3 h2
  obtain ⟨v3, e3, -, -⟩ := DataW.trod_int Tryz.underlying3 h3
  obtain ⟨v4, e4, -⟩ := DataW.trod_bool Tryz.underlying4 h4
  obtain ⟨a, l, cp, e5⟩ := Go.Joins.slice_form Tryz.underlying56 h5
  simp only [List.cons.injEq, and_true] at e0 e1 e2 e3 e4 e5
  subst e0 e1 e2 e3 e4 e5
  obtain ⟨zs, hl, hI⟩ := ints64_of h5
  subst hl
  exact ⟨⟨v0, v1, v2, v3, v4, a, zs.length, cp⟩, ⟨v0, v1, v2, v3, v4, zs⟩, rfl, OpIs.of (o := ⟨v0, v1, v2, v3, v4, zs⟩) hI⟩
set_option maxRecDepth 100000 in
/-- An operation that came in by value. -/
theorem open_op {H : Type} {enc : TypeId × Value → H} {W : World} {b0 : Nat} {r : Reach} {base : Nat} {sp : Nat → Bool} {held : Bool} {v : Value} {d : DataW H} {p : List MemPlace}
    (hv : Value.okWide Tryz.prog W r b0 58 v) (h : DataW.Trod enc Tryz.prog W base sp held 58 v d p) : ∃ (o : OpS) (a : Option Addr) (cp : Nat), v = opV o.kind o.id o.cls o.n o.flag (.slice a o.am.length cp) ∧ IntsAt W (.slice a o.am.length cp) o.am := by
  obtain ⟨cs, rfl, hsz⟩ := okWide_struct Tryz.underlying58 hv
  obtain ⟨fuel, hf⟩ := h
  obtain ⟨q, o, hq, ho⟩ := op_of hf
  obtain ⟨l⟩ := cs
  obtain rfl : l = kOp.enc q := hq
  refine ⟨o, q.a, q.cp, ?_, ho.ints⟩
  obtain ⟨k, i, c, n, f, a, ln, cp⟩ := q
  have e1 := ho.kind; have e2 := ho.id; have e3 := ho.cls; have e4 := ho.n; have e5 := ho.flag; have e6 := ho.l
  simp only at e1 e2 e3 e4 e5 e6
  subst e1 e2 e3 e4 e5 e6
  rfl
instance : Inhabited (OpR × OpS) := ⟨⟨⟨0, 0, 0, 0, false, none, 0, 0⟩, ⟨0, 0, 0, 0, false, []⟩⟩⟩
/-- A slice of operations that came in, as the walks read it. -/
theorem ops_of {H : Type} {enc : TypeId × Value → H} {W : World} {base : Nat} {a : Option Addr} {len cap fuel : Nat} {x : DataW H × List MemPlace} {sp : Nat → Bool} {held : Bool}
    (hf : DataW.trod enc Tryz.prog W base sp held fuel 49 [.slice a len cap] = some x) : ∃ os : List OpS, os.length = len ∧ AtOps W (.slice a len cap) os := by
  rcases Go.Deep.open_slice Tryz.underlying49 hf with ⟨hcs, _⟩ | ⟨y, l, c, m, n, D, Pl, hcs, _, hl, hm, hmm, hx, hi⟩
  · simp at hcs
    obtain ⟨rfl, rfl, rfl⟩ := hcs
    exact ⟨[], rfl, [], ⟨_, _, rfl, .inl rfl⟩, rfl, fun j x o hx => by simp at hx⟩
  · simp at hcs
    obtain ⟨rfl, rfl, rfl⟩ := hcs
    have hml : len ≤ m := by rw [hmm]; split <;> omega
    by_cases h0 : len = 0
    · subst h0; exact ⟨[], rfl, [], ⟨_, _, rfl, .inl rfl⟩, rfl, fun j x o hx => by simp at hx⟩
    have hcell : ∀ i, i < len → ∃ q : OpR × OpS, OpIs W none q.1 q.2 ∧ ∀ j u, (kOp.enc q.1)[j]? = some u → W.cell? (y.add (i * 6 + j)) = some u := fun i hil => by
      obtain ⟨cs', hc, ht⟩ := hi i (by omega)
      rw [cellsOp] at hc
      obtain ⟨q, o, rfl, ho⟩ := op_of ht
      obtain ⟨_, hcl, hat⟩ := World.cells?_some hc
      refine ⟨(q, o), ho, fun j u hu => ?_⟩
      have hj : j < 6 := by have := (List.getElem?_eq_some_iff.1 hu).1; rw [hcl] at this; exact this
      have := hat j hj
      rw [Go.Deep.add_add] at this
      rw [this]; exact hu
    obtain ⟨q0, -, h00⟩ := hcell 0 (by omega)
    obtain ⟨b, off, rfl⟩ := addr_plain (h00 0 _ rfl)
    obtain ⟨ps, hlo, ho⟩ := choose_list hcell
    subst hlo
    refine ⟨ps.map (·.2), by simp, ps.map (·.1), ⟨_, cap, by simp, .inr ⟨b, off, rfl, ?_, fun k q hk i u hu => ?_⟩⟩, by simp, fun j x o hx ho' => ?_⟩
    · have := h00 0 _ rfl
      rw [add_mk] at this
      exact cell_lt this
    · rw [List.getElem?_map] at hk
      obtain ⟨p, hp, rfl⟩ := Option.map_eq_some_iff.1 hk
      obtain ⟨hkl, rfl⟩ := List.getElem?_eq_some_iff.1 hp
      have := (ho k hkl).2 i u hu
      rw [add_mk] at this
      rw [show off + k * kOp.size + i = off + (k * 6 + i) by show off + k * 6 + i = _; omega]
      exact this
    · rw [List.getElem?_map] at hx ho'
      obtain ⟨p, hp, rfl⟩ := Option.map_eq_some_iff.1 hx
      rw [hp] at ho'
      cases ho'
      obtain ⟨hkl, rfl⟩ := List.getElem?_eq_some_iff.1 hp
      exact (ho j hkl).1
theorem gKinds : Tryz.prog.globalNamed "hammock/fault.kinds" = some 4 := by kernel_rfl
theorem tKinds : (Tryz.prog.globals[4]?).map (·.type) = some 99 := by kernel_rfl
theorem uKinds : Tryz.prog.underlying 99 = some (.array 8 9) := by kernel_rfl
theorem gFields : Tryz.prog.globalNamed "hammock/script.fields" = some 1 := by kernel_rfl
theorem tFields : (Tryz.prog.globals[1]?).map (·.type) = some 99 := by kernel_rfl
theorem gFlags : Tryz.prog.globalNamed "hammock/script.flags" = some 2 := by kernel_rfl
theorem tFlags : (Tryz.prog.globals[2]?).map (·.type) = some 105 := by kernel_rfl
theorem uFlags : Tryz.prog.underlying 105 = some (.array 2 9) := by kernel_rfl
theorem kinds_of_met {W : World} {r : List (String × DataW Unit)} (h : laidMet Tryz.prog (("hammock/fault.kinds", Rows.laid_hammock_fault_kinds) :: r) W) : KindsAt W := by
  obtain ⟨ps, hv, _⟩ := h
  have h1 := (laid_strings (ss := kindNames.map (·.data.toList)) hv gKinds tKinds uKinds Tryz.underlying9 c1String).1
  intro i hi
  rw [h1 i hi]
  have : i = 0 ∨ i = 1 ∨ i = 2 ∨ i = 3 ∨ i = 4 ∨ i = 5 ∨ i = 6 ∨ i = 7 := by omega
  rcases this with rfl | rfl | rfl | rfl | rfl | rfl | rfl | rfl <;> rfl
theorem fields_of_met {W : World} {r : List (String × DataW Unit)} (h : laidMet Tryz.prog (("hammock/script.fields", Rows.laid_hammock_script_fields) :: r) W) : FieldsAt W := by
  obtain ⟨ps, hv, _⟩ := h
  have h1 := (laid_strings (ss := opFields) hv gFields tFields uKinds Tryz.underlying9 c1String).1
  intro i hi
  rw [h1 i hi]; rfl
theorem flags_of_met {W : World} {r : List (String × DataW Unit)} (h : laidMet Tryz.prog (("hammock/script.flags", Rows.laid_hammock_script_flags) :: r) W) : FlagsAt W := by
  obtain ⟨ps, hv, _⟩ := h
  have h1 := (laid_strings (ss := [[110, 111], [121, 101, 115]]) hv gFlags tFlags uFlags Tryz.underlying9 c1String).1
  exact ⟨h1 0 (by decide), h1 1 (by decide)⟩
/-- What the rows of the script's laws lay. -/
theorem scrW_of_laid {W : World} (hsh : W.ShapedOpen Tryz.prog) (h : laidMetH Tryz.prog Rows.scriptNumbersRow.laid W) : ScrW W := by
  have h0 : laidMet Tryz.prog [("math/bits.deBruijn32tab", Rows.laid_math_bits_deBruijn32tab), ("math/bits.deBruijn64tab", Rows.laid_math_bits_deBruijn64tab), ("internal/strconv.uint64pow10", Rows.laid_internal_strconv_uint64pow10), ("unicode/utf8.acceptRanges", Rows.laid_unicode_utf8_acceptRanges), ("strconv.ErrRange", Rows.laid_strconv_ErrRange), ("strconv.ErrSyntax", Rows.laid_strconv_ErrSyntax), ("hammock/fault.kinds", Rows.laid_hammock_fault_kinds), ("hammock/script.fields", Rows.laid_hammock_script_fields), ("hammock/script.flags", Rows.laid_hammock_script_flags), ("unicode/utf8.first", Rows.laid_unicode_utf8_first)] W ∧ handlesMet Tryz.prog [("errors.errorType", Rows.laid_errors_errorType)] W := h
  have t3 := h0.1.tail.tail
  have t5 := t3.tail.tail
  have t6 := t5.tail
  have t7 := t6.tail
  have t8 := t7.tail
  have t9 := t8.tail
  exact ⟨⟨⟨tab_of_met t3, maxLen_of_shape hsh, syn_of_met t6, rng_of_met t5⟩, errType_of_handles h0.2 (List.mem_singleton.2 rfl)⟩, kinds_of_met t7, fields_of_met t8, flags_of_met t9⟩
end Go.Proofs.YtdclokpoeaehlaaGreatDoor
