/- What comes in, read for the walk: a view by value, slices of nodes and of pods. -/
import Derived.Test.YtkdmjpakpmnhgaaGreatDoorDoor
import Derived.Test.YtkdmjpakpmnhgaaGreatDoorAvC
import Derived.Lib.SmallJoins
namespace Go.Proofs.YtkdmjpakpmnhgaaGreatDoor
set_option linter.all false
open Go.ChangeShapes Go.WideShapes Go.ChangeAt Go.WideMaps Go.WideElems Go.RowKit

theorem field_at {H : Type} {enc : TypeId × Value → H} {P : Program} {W : World} {base n : Nat} {sp : Nat → Bool} {held : Bool} {fs : Array Field} {cs : List Value} {xs : List (DataW H × List MemPlace)} (hlen : xs.length = fs.size)
    (hf : ∀ (i : Nat) (f : Field), fs[i]? = some f → DataW.trod enc P W base sp held n f.type ((cs.drop f.offset).take (P.cellsOf f.type)) = xs[i]?) (i : Nat) (f : Field) (h : fs[i]? = some f) :
    ∃ y, DataW.trod enc P W base sp held n f.type ((cs.drop f.offset).take (P.cellsOf f.type)) = some y := by
  have hi : i < fs.size := (Array.getElem?_eq_some_iff.1 h).1
  exact ⟨_, (hf i f h).trans (List.getElem?_eq_getElem (by rw [hlen]; exact hi))⟩
/-- A slice of int64 that came in: what it holds; it is no longer than its capacity. -/
theorem ints64_of {H : Type} {enc : TypeId × Value → H} {W : World} {base : Nat} {a : Option Addr} {len cap fuel : Nat} {x : DataW H × List MemPlace} {sp : Nat → Bool} {held : Bool}
    (hf : DataW.trod enc Tryz.prog W base sp held fuel 29 [.slice a len cap] = some x) : ∃ zs, zs.length = len ∧ IntsAt W (.slice a len cap) zs ∧ len ≤ maxLen := by
  have hb : len ≤ maxLen := by
    rcases Go.Deep.open_slice Tryz.underlying29 hf with ⟨hcs, _⟩ | ⟨y, l, c, m, n, D, Pl, hcs, _, hl, hm, _⟩
    · simp at hcs; omega
    · simp at hcs; omega
  rcases open_ints Tryz.underlying29 Tryz.underlying2 (by kernel_rfl) hf with ⟨hcs, _⟩ | ⟨y, l, c, zs, hcs, _, hl, hm, hz, hx, hcell, hwz⟩
  · simp at hcs
    obtain ⟨rfl, rfl, rfl⟩ := hcs
    exact ⟨[], rfl, ⟨_, _, rfl, .inl rfl⟩, hb⟩
  · simp at hcs
    obtain ⟨rfl, rfl, rfl⟩ := hcs
    have hzl : len ≤ zs.length := by rw [hz]; split <;> omega
    by_cases h0 : len = 0
    · subst h0; exact ⟨[], rfl, ⟨_, _, rfl, .inl rfl⟩, hb⟩
    · obtain ⟨b, off, rfl, hc⟩ := ints_at hcell (by omega)
      have hbl : b < W.heap.size := by
        have := hc 0 (by omega)
        rcases Nat.lt_or_ge b W.heap.size with h1 | h1
        · exact h1
        · simp [World.cell?, Array.getElem?_eq_none h1] at this
      refine ⟨zs.take len, by simp; omega, ⟨_, cap, by simp [Nat.min_eq_left hzl], .inr ⟨b, off, rfl, hbl, fun j hj => ?_⟩⟩, hb⟩
      simp only [List.length_take] at hj
      rw [hc j (by omega), List.getD_eq_getElem?_getD, List.getD_eq_getElem?_getD, List.getElem?_take, if_pos (by omega)]
theorem cellsInt : Tryz.prog.cellsOf 3 = 1 := by kernel_rfl
theorem cellsBool : Tryz.prog.cellsOf 4 = 1 := by kernel_rfl
theorem cellsI64s : Tryz.prog.cellsOf 29 = 1 := by kernel_rfl
theorem cellsIs : Tryz.prog.cellsOf 24 = 1 := by kernel_rfl
theorem cellsNs : Tryz.prog.cellsOf 22 = 1 := by kernel_rfl
theorem cellsPs : Tryz.prog.cellsOf 23 = 1 := by kernel_rfl
theorem cellsPod : Tryz.prog.cellsOf 31 = 9 := by kernel_rfl
theorem cellsNode : Tryz.prog.cellsOf 40 = 2 := by kernel_rfl
theorem cellsView : Tryz.prog.cellsOf 26 = 5 := by kernel_rfl
theorem addr_plain {W : World} {a : Addr} {v : Value} (h : W.cell? (a.add 0) = some v) : ∃ b off, a = ⟨b, off, none⟩ := by
  obtain ⟨b, off, spot⟩ := a
  have hspot : spot = none := by simpa [Addr.add] using World.cell?_spot h
  subst hspot
  exact ⟨b, off, rfl⟩
theorem choose_list {α : Type} [Inhabited α] {n : Nat} {P : Nat → α → Prop} (h : ∀ i, i < n → ∃ x, P i x) : ∃ l : List α, l.length = n ∧ ∀ i, (hi : i < l.length) → P i l[i] := by
  classical
  refine ⟨(List.range n).map fun i => if hi : i < n then Classical.choose (h i hi) else default, by simp, fun i hi => ?_⟩
  have hin : i < n := by simpa using hi
  simp only [List.getElem_map, List.getElem_range, hin, dif_pos]
  exact Classical.choose_spec (h i hin)
instance : Inhabited (PodR × PodS) := ⟨⟨⟨0, 0, false, 0, none, 0, 0, 0, 0, 0, 0⟩, ⟨0, 0, false, 0, [], 0, 0, 0, 0⟩⟩⟩
instance : Inhabited (NodeR × NodeS) := ⟨⟨⟨0, none, 0, 0⟩, ⟨0, []⟩⟩⟩
theorem list9 {α : Type} {l : List α} (h : l.length = 9) : ∃ c0 c1 c2 c3 c4 c5 c6 c7 c8, l = [c0, c1, c2, c3, c4, c5, c6, c7, c8] := by
  match l, h with
  | [c0, c1, c2, c3, c4, c5, c6, c7, c8], _ => exact ⟨c0, c1, c2, c3, c4, c5, c6, c7, c8, rfl⟩
theorem list2 {α : Type} {l : List α} (h : l.length = 2) : ∃ c0 c1, l = [c0, c1] := by
  match l, h with
  | [c0, c1], _ => exact ⟨c0, c1, rfl⟩
theorem list5 {α : Type} {l : List α} (h : l.length = 5) : ∃ c0 c1 c2 c3 c4, l = [c0, c1, c2, c3, c4] := by
  match l, h with
  | [c0, c1, c2, c3, c4], _ => exact ⟨c0, c1, c2, c3, c4, rfl⟩
set_option maxRecDepth 100000 in
/-- A pod's nine cells, read. -/
theorem pod_of {H : Type} {enc : TypeId × Value → H} {W : World} {base fuel : Nat} {cs : List Value} {x : DataW H × List MemPlace} {sp : Nat → Bool} {held : Bool} (h : DataW.trod enc Tryz.prog W base sp held fuel 31 cs = some x) :
    ∃ (q : PodR) (o : PodS), cs = kPod.enc q ∧ PodIs W q o := by
  obtain ⟨xs, n, _, _, hcl, hlen, hf⟩ := DataW.trod_struct Tryz.underlying31 h
  obtain ⟨c0, c1, c2, c3, c4, c5, c6, c7, c8, rfl⟩ := list9 (hcl.trans cellsPod)
  obtain ⟨y0, h0⟩ := field_at hlen hf 0 _ rfl
  have g0 : DataW.trod enc Tryz.prog W base sp held n 3 (([c0, c1, c2, c3, c4, c5, c6, c7, c8].drop 0).take (Tryz.prog.cellsOf 3)) = some y0 := h0
  rw [cellsInt] at g0
  replace h0 : DataW.trod enc Tryz.prog W base sp held n 3 [c0] = some y0 := g0
  obtain ⟨y1, h1⟩ := field_at hlen hf 1 _ rfl
  have g1 : DataW.trod enc Tryz.prog W base sp held n 3 (([c0, c1, c2, c3, c4, c5, c6, c7, c8].drop 1).take (Tryz.prog.cellsOf 3)) = some y1 := h1
  rw [cellsInt] at g1
  replace h1 : DataW.trod enc Tryz.prog W base sp held n 3 [c1] = some y1 := g1
  obtain ⟨y2, h2⟩ := field_at hlen hf 2 _ rfl
  have g2 : DataW.trod enc Tryz.prog W base sp held n 4 (([c0, c1, c2, c3, c4, c5, c6, c7, c8].drop 2).take (Tryz.prog.cellsOf 4)) = some y2 := h2
  rw [cellsBool] at g2
  replace h2 : DataW.trod enc Tryz.prog W base sp held n 4 [c2] = some y2 := g2
  obtain ⟨y3, h3⟩ := field_at hlen hf 3 _ rfl
  have g3 : DataW.trod enc Tryz.prog W base sp held n 3 (([c0, c1, c2, c3, c4, c5, c6, c7, c8].drop 3).take (Tryz.prog.cellsOf 3)) = some y3 := h3
  rw [cellsInt] at g3
  replace h3 : DataW.trod enc Tryz.prog W base sp held n 3 [c3] = some y3 := g3
  obtain ⟨y4, h4⟩ := field_at hlen hf 4 _ rfl
  have g4 : DataW.trod enc Tryz.prog W base sp held n 29 (([c0, c1, c2, c3, c4, c5, c6, c7, c8].drop 4).take (Tryz.prog.cellsOf 29)) = some y4 := h4
  rw [cellsI64s] at g4
  replace h4 : DataW.trod enc Tryz.prog W base sp held n 29 [c4] = some y4 := g4
  obtain ⟨y5, h5⟩ := field_at hlen hf 5 _ rfl
  have g5 : DataW.trod enc Tryz.prog W base sp held n 3 (([c0, c1, c2, c3, c4, c5, c6, c7, c8].drop 5).take (Tryz.prog.cellsOf 3)) = some y5 := h5
  rw [cellsInt] at g5
  replace h5 : DataW.trod enc Tryz.prog W base sp held n 3 [c5] = some y5 := g5
  obtain ⟨y6, h6⟩ := field_at hlen hf 6 _ rfl
  have g6 : DataW.trod enc Tryz.prog W base sp held n 3 (([c0, c1, c2, c3, c4, c5, c6, c7, c8].drop 6).take (Tryz.prog.cellsOf 3)) = some y6 := h6
  rw [cellsInt] at g6
  replace h6 : DataW.trod enc Tryz.prog W base sp held n 3 [c6] = some y6 := g6
  obtain ⟨y7, h7⟩ := field_at hlen hf 7 _ rfl
  have g7 : DataW.trod enc Tryz.prog W base sp held n 3 (([c0, c1, c2, c3, c4, c5, c6, c7, c8].drop 7).take (Tryz.prog.cellsOf 3)) = some y7 := h7
  rw [cellsInt] at g7
  replace h7 : DataW.trod enc Tryz.prog W base sp held n 3 [c7] = some y7 := g7
  obtain ⟨y8, h8⟩ := field_at hlen hf 8 _ rfl
  have g8 : DataW.trod enc Tryz.prog W base sp held n 3 (([c0, c1, c2, c3, c4, c5, c6, c7, c8].drop 8).take (Tryz.prog.cellsOf 3)) = some y8 := h8
  rw [cellsInt] at g8
  replace h8 : DataW.trod enc Tryz.prog W base sp held n 3 [c8] = some y8 := g8
  clear hf
  obtain ⟨v0, e0, -, -⟩ := DataW.trod_int Tryz.underlying3 h0
  obtain ⟨v1, e1, -, -⟩ := DataW.trod_int Tryz.underlying3 h1
  obtain ⟨v2, e2, -⟩ := DataW.trod_bool Tryz.underlying4 h2
  obtain ⟨v3, e3, -, -⟩ := DataW.trod_int Tryz.underlying3 h3
  obtain ⟨a4, l4, p4, e4⟩ := Go.Joins.slice_form Tryz.underlying29 h4
  obtain ⟨v5, e5, -, -⟩ := DataW.trod_int Tryz.underlying3 h5
  obtain ⟨v6, e6, -, -⟩ := DataW.trod_int Tryz.underlying3 h6
  obtain ⟨v7, e7, -, -⟩ := DataW.trod_int Tryz.underlying3 h7
  obtain ⟨v8, e8, -, -⟩ := DataW.trod_int Tryz.underlying3 h8
  simp only [List.cons.injEq, and_true] at e0 e1 e2 e3 e4 e5 e6 e7 e8
  subst e0 e1 e2 e3 e4 e5 e6 e7 e8
  obtain ⟨zs, hl, hI, -⟩ := ints64_of h4
  subst hl
  exact ⟨⟨v0, v1, v2, v3, a4, zs.length, p4, v5, v6, v7, v8⟩, ⟨v0, v1, v2, v3, zs, v5, v6, v7, v8⟩, rfl, rfl, rfl, rfl, rfl, rfl, rfl, rfl, rfl, rfl, hI⟩
set_option maxRecDepth 100000 in
/-- A node's two cells, read. -/
theorem node_of {H : Type} {enc : TypeId × Value → H} {W : World} {base fuel : Nat} {cs : List Value} {x : DataW H × List MemPlace} {sp : Nat → Bool} {held : Bool} (h : DataW.trod enc Tryz.prog W base sp held fuel 40 cs = some x) :
    ∃ (q : NodeR) (o : NodeS), cs = kNode.enc q ∧ (q.id = o.id ∧ q.l = o.cap.length ∧ IntsAt W (.slice q.a o.cap.length q.cp) o.cap) ∧ o.cap.length ≤ maxLen := by
  obtain ⟨xs, n, _, _, hcl, hlen, hf⟩ := DataW.trod_struct Tryz.underlying40 h
  obtain ⟨c0, c1, rfl⟩ := list2 (hcl.trans cellsNode)
  obtain ⟨y0, h0⟩ := field_at hlen hf 0 _ rfl
  have g0 : DataW.trod enc Tryz.prog W base sp held n 3 (([c0, c1].drop 0).take (Tryz.prog.cellsOf 3)) = some y0 := h0
  rw [cellsInt] at g0
  replace h0 : DataW.trod enc Tryz.prog W base sp held n 3 [c0] = some y0 := g0
  obtain ⟨y1, h1⟩ := field_at hlen hf 1 _ rfl
  have g1 : DataW.trod enc Tryz.prog W base sp held n 29 (([c0, c1].drop 1).take (Tryz.prog.cellsOf 29)) = some y1 := h1
  rw [cellsI64s] at g1
  replace h1 : DataW.trod enc Tryz.prog W base sp held n 29 [c1] = some y1 := g1
  clear hf
  obtain ⟨v0, e0, -, -⟩ := DataW.trod_int Tryz.underlying3 h0
  obtain ⟨a1, l1, p1, e1⟩ := Go.Joins.slice_form Tryz.underlying29 h1
  simp only [List.cons.injEq, and_true] at e0 e1
  subst e0 e1
  obtain ⟨zs, hl, hI, hb⟩ := ints64_of h1
  subst hl
  exact ⟨⟨v0, a1, zs.length, p1⟩, ⟨v0, zs⟩, rfl, ⟨rfl, rfl, hI⟩, hb⟩
/-- A slice of pods that came in, as the walks read it. -/
theorem pods_of {H : Type} {enc : TypeId × Value → H} {W : World} {base : Nat} {a : Option Addr} {len cap fuel : Nat} {x : DataW H × List MemPlace} {sp : Nat → Bool} {held : Bool}
    (hf : DataW.trod enc Tryz.prog W base sp held fuel 23 [.slice a len cap] = some x) : ∃ os : List PodS, os.length = len ∧ AtPods W (.slice a len cap) os ∧ len ≤ cap ∧ len ≤ maxLen := by
  rcases Go.Deep.open_slice Tryz.underlying23 hf with ⟨hcs, _⟩ | ⟨y, l, c, m, n, D, Pl, hcs, _, hl, hm, hmm, hx, hi⟩
  · simp at hcs
    obtain ⟨rfl, rfl, rfl⟩ := hcs
    exact ⟨[], rfl, ⟨[], ⟨_, _, rfl, .inl rfl⟩, rfl, fun j x o hx => by simp at hx⟩, Nat.le_refl _, Nat.zero_le _⟩
  · simp at hcs
    obtain ⟨rfl, rfl, rfl⟩ := hcs
    have hml : len ≤ m := by rw [hmm]; split <;> omega
    have hlm : len ≤ maxLen := Nat.le_trans hl hm
    by_cases h0 : len = 0
    · subst h0; exact ⟨[], rfl, ⟨[], ⟨_, _, rfl, .inl rfl⟩, rfl, fun j x o hx => by simp at hx⟩, hl, hlm⟩
    have hcell : ∀ i, i < len → ∃ q : PodR × PodS, (PodIs W q.1 q.2) ∧ ∀ j u, (kPod.enc q.1)[j]? = some u → W.cell? (y.add (i * 9 + j)) = some u := fun i hil => by
      obtain ⟨cs', hc, ht⟩ := hi i (by omega)
      rw [cellsPod] at hc
      obtain ⟨q, o, rfl, ho⟩ := pod_of ht
      obtain ⟨_, hcl, hat⟩ := World.cells?_some hc
      refine ⟨(q, o), ho, fun j u hu => ?_⟩
      have hj : j < 9 := by have := (List.getElem?_eq_some_iff.1 hu).1; rw [hcl] at this; exact this
      have := hat j hj
      rw [Go.Deep.add_add] at this
      rw [this]; exact hu
    obtain ⟨q0, -, h00⟩ := hcell 0 (by omega)
    obtain ⟨b, off, rfl⟩ := addr_plain (h00 0 _ rfl)
    obtain ⟨ps, hlo, ho⟩ := choose_list hcell
    subst hlo
    refine ⟨ps.map (·.2), by simp, ⟨ps.map (·.1), ⟨_, cap, by simp, .inr ⟨b, off, rfl, ?_, fun k q hk i u hu => ?_⟩⟩, by simp, fun j x o hx ho' => ?_⟩, hl, hlm⟩
    · have := h00 0 _ rfl
      rw [add_mk] at this
      exact cell_lt this
    · rw [List.getElem?_map] at hk
      obtain ⟨p, hp, rfl⟩ := Option.map_eq_some_iff.1 hk
      obtain ⟨hkl, rfl⟩ := List.getElem?_eq_some_iff.1 hp
      have := (ho k hkl).2 i u hu
      rw [add_mk] at this
      rw [show off + k * kPod.size + i = off + (k * 9 + i) by show off + k * 9 + i = _; omega]
      exact this
    · rw [List.getElem?_map] at hx ho'
      obtain ⟨p, hp, rfl⟩ := Option.map_eq_some_iff.1 hx
      rw [hp] at ho'
      cases ho'
      obtain ⟨hkl, rfl⟩ := List.getElem?_eq_some_iff.1 hp
      exact (ho j hkl).1
/-- A slice of nodes that came in, as the walks read it. -/
theorem nodes_of {H : Type} {enc : TypeId × Value → H} {W : World} {base : Nat} {a : Option Addr} {len cap fuel : Nat} {x : DataW H × List MemPlace} {sp : Nat → Bool} {held : Bool}
    (hf : DataW.trod enc Tryz.prog W base sp held fuel 22 [.slice a len cap] = some x) : ∃ os : List NodeS, os.length = len ∧ AtNodes W (.slice a len cap) os ∧ len ≤ cap ∧ len ≤ maxLen ∧ ∀ p ∈ os, p.cap.length ≤ maxLen := by
  rcases Go.Deep.open_slice Tryz.underlying22 hf with ⟨hcs, _⟩ | ⟨y, l, c, m, n, D, Pl, hcs, _, hl, hm, hmm, hx, hi⟩
  · simp at hcs
    obtain ⟨rfl, rfl, rfl⟩ := hcs
    exact ⟨[], rfl, ⟨[], ⟨_, _, rfl, .inl rfl⟩, rfl, fun j x o hx => by simp at hx⟩, Nat.le_refl _, Nat.zero_le _, fun p hp => by cases hp⟩
  · simp at hcs
    obtain ⟨rfl, rfl, rfl⟩ := hcs
    have hml : len ≤ m := by rw [hmm]; split <;> omega
    have hlm : len ≤ maxLen := Nat.le_trans hl hm
    by_cases h0 : len = 0
    · subst h0; exact ⟨[], rfl, ⟨[], ⟨_, _, rfl, .inl rfl⟩, rfl, fun j x o hx => by simp at hx⟩, hl, hlm, fun p hp => by cases hp⟩
    have hcell : ∀ i, i < len → ∃ q : NodeR × NodeS, ((q.1.id = q.2.id ∧ q.1.l = q.2.cap.length ∧ IntsAt W (.slice q.1.a q.2.cap.length q.1.cp) q.2.cap) ∧ q.2.cap.length ≤ maxLen) ∧ ∀ j u, (kNode.enc q.1)[j]? = some u → W.cell? (y.add (i * 2 + j)) = some u := fun i hil => by
      obtain ⟨cs', hc, ht⟩ := hi i (by omega)
      rw [cellsNode] at hc
      obtain ⟨q, o, rfl, ho⟩ := node_of ht
      obtain ⟨_, hcl, hat⟩ := World.cells?_some hc
      refine ⟨(q, o), ho, fun j u hu => ?_⟩
      have hj : j < 2 := by have := (List.getElem?_eq_some_iff.1 hu).1; rw [hcl] at this; exact this
      have := hat j hj
      rw [Go.Deep.add_add] at this
      rw [this]; exact hu
    obtain ⟨q0, -, h00⟩ := hcell 0 (by omega)
    obtain ⟨b, off, rfl⟩ := addr_plain (h00 0 _ rfl)
    obtain ⟨ps, hlo, ho⟩ := choose_list hcell
    subst hlo
    refine ⟨ps.map (·.2), by simp, ⟨ps.map (·.1), ⟨_, cap, by simp, .inr ⟨b, off, rfl, ?_, fun k q hk i u hu => ?_⟩⟩, by simp, fun j x o hx ho' => ?_⟩, hl, hlm, fun p hp => ?_⟩
    · have := h00 0 _ rfl
      rw [add_mk] at this
      exact cell_lt this
    · rw [List.getElem?_map] at hk
      obtain ⟨p, hp, rfl⟩ := Option.map_eq_some_iff.1 hk
      obtain ⟨hkl, rfl⟩ := List.getElem?_eq_some_iff.1 hp
      have := (ho k hkl).2 i u hu
      rw [add_mk] at this
      rw [show off + k * kNode.size + i = off + (k * 2 + i) by show off + k * 2 + i = _; omega]
      exact this
    · rw [List.getElem?_map] at hx ho'
      obtain ⟨p, hp, rfl⟩ := Option.map_eq_some_iff.1 hx
      rw [hp] at ho'
      cases ho'
      obtain ⟨hkl, rfl⟩ := List.getElem?_eq_some_iff.1 hp
      exact (ho j hkl).1.1
    · obtain ⟨q, hq, rfl⟩ := List.mem_map.1 hp
      obtain ⟨j, hj, rfl⟩ := List.getElem_of_mem hq
      exact (ho j hj).1.2
/-- A view that came in by value. -/
structure ViewIn (W : World) (v : Value) (dims : Int) (an ap aa ak : Option Addr) (ln cn cp la ca lk ck : Nat) (ns : List NodeS) (ps : List PodS) : Prop where
  val : v = viewV dims (.slice an ln cn) (.slice ap ps.length cp) (.slice aa la ca) (.slice ak lk ck)
  nodes : AtNodes W (.slice an ln cn) ns
  caps : ∀ p ∈ ns, p.cap.length ≤ maxLen
  pods : AtPods W (.slice ap ps.length cp) ps
  fits : ps.length ≤ cp
  len : ps.length ≤ maxLen
set_option maxRecDepth 100000 in
theorem view_of {H : Type} {enc : TypeId × Value → H} {W : World} {base fuel : Nat} {cs : List Value} {x : DataW H × List MemPlace} {sp : Nat → Bool} {held : Bool} (h : DataW.trod enc Tryz.prog W base sp held fuel 26 cs = some x) :
    ∃ dims an ap aa ak ln cn cp la ca lk ck ns ps, ViewIn W (.agg cs.toArray) dims an ap aa ak ln cn cp la ca lk ck ns ps := by
  obtain ⟨xs, n, _, _, hcl, hlen, hf⟩ := DataW.trod_struct Tryz.underlying26 h
  obtain ⟨c0, c1, c2, c3, c4, rfl⟩ := list5 (hcl.trans cellsView)
  obtain ⟨y0, h0⟩ := field_at hlen hf 0 _ rfl
  have g0 : DataW.trod enc Tryz.prog W base sp held n 3 (([c0, c1, c2, c3, c4].drop 0).take (Tryz.prog.cellsOf 3)) = some y0 := h0
  rw [cellsInt] at g0
  replace h0 : DataW.trod enc Tryz.prog W base sp held n 3 [c0] = some y0 := g0
  obtain ⟨y1, h1⟩ := field_at hlen hf 1 _ rfl
  have g1 : DataW.trod enc Tryz.prog W base sp held n 22 (([c0, c1, c2, c3, c4].drop 1).take (Tryz.prog.cellsOf 22)) = some y1 := h1
  rw [cellsNs] at g1
  replace h1 : DataW.trod enc Tryz.prog W base sp held n 22 [c1] = some y1 := g1
  obtain ⟨y2, h2⟩ := field_at hlen hf 2 _ rfl
  have g2 : DataW.trod enc Tryz.prog W base sp held n 23 (([c0, c1, c2, c3, c4].drop 2).take (Tryz.prog.cellsOf 23)) = some y2 := h2
  rw [cellsPs] at g2
  replace h2 : DataW.trod enc Tryz.prog W base sp held n 23 [c2] = some y2 := g2
  obtain ⟨y3, h3⟩ := field_at hlen hf 3 _ rfl
  have g3 : DataW.trod enc Tryz.prog W base sp held n 24 (([c0, c1, c2, c3, c4].drop 3).take (Tryz.prog.cellsOf 24)) = some y3 := h3
  rw [cellsIs] at g3
  replace h3 : DataW.trod enc Tryz.prog W base sp held n 24 [c3] = some y3 := g3
  obtain ⟨y4, h4⟩ := field_at hlen hf 4 _ rfl
  have g4 : DataW.trod enc Tryz.prog W base sp held n 24 (([c0, c1, c2, c3, c4].drop 4).take (Tryz.prog.cellsOf 24)) = some y4 := h4
  rw [cellsIs] at g4
  replace h4 : DataW.trod enc Tryz.prog W base sp held n 24 [c4] = some y4 := g4
  clear hf
  obtain ⟨v0, e0, -, -⟩ := DataW.trod_int Tryz.underlying3 h0
  obtain ⟨a1, l1, p1, e1⟩ := Go.Joins.slice_form Tryz.underlying22 h1
  obtain ⟨a2, l2, p2, e2⟩ := Go.Joins.slice_form Tryz.underlying23 h2
  obtain ⟨a3, l3, p3, e3⟩ := Go.Joins.slice_form Tryz.underlying24 h3
  obtain ⟨a4, l4, p4, e4⟩ := Go.Joins.slice_form Tryz.underlying24 h4
  simp only [List.cons.injEq, and_true] at e0 e1 e2 e3 e4
  subst e0 e1 e2 e3 e4
  obtain ⟨ns, hl1, hN, -, -, hcaps⟩ := nodes_of h1
  obtain ⟨ps, hl2, hP, hfit, hlen2⟩ := pods_of h2
  subst hl2
  exact ⟨_, _, _, _, _, _, _, _, _, _, _, _, ns, ps, ⟨rfl, hN, hcaps, hP, hfit, hlen2⟩⟩
set_option maxRecDepth 100000 in
theorem open_view {H : Type} {enc : TypeId × Value → H} {W : World} {b0 : Nat} {r : Reach} {base : Nat} {sp : Nat → Bool} {held : Bool} {v : Value} {d : DataW H} {p : List MemPlace}
    (hv : Value.okWide Tryz.prog W r b0 26 v) (h : DataW.Trod enc Tryz.prog W base sp held 26 v d p) : ∃ dims an ap aa ak ln cn cp la ca lk ck ns ps, ViewIn W v dims an ap aa ak ln cn cp la ca lk ck ns ps := by
  obtain ⟨cs, rfl, hsz⟩ := okWide_struct Tryz.underlying26 hv
  obtain ⟨fuel, hf⟩ := h
  obtain ⟨l⟩ := cs
  exact view_of (cs := l) hf
/-- AuditUsage, whatever the view. -/
theorem auditUsage_walk (v : Value) (which node : Int) (dims : Int) (an ap aa ak : Option Addr) (ln cn cp la ca lk ck : Nat) (ns : List NodeS) (ps : List PodS) (w : World) (h : ViewIn w v dims an ap aa ak ln cn cp la ca lk ck ns ps) (h0 : 0 ≤ which) (h1 : which < 256)
    (hl : w.cell? ⟨1, 3, none⟩ = some (.string ⟨#[98, 111, 117, 110, 100]⟩) ∧ w.cell? ⟨0, 5, none⟩ = some (.string ⟨#[116, 119, 105, 99, 101]⟩)) :
    Calls Tryz.prog 3 #[v, .int .u8 which, .int .i64 node] w fun e w' => e = .returned (.bool true) ∧ Below w.heap.size w w' := by
  obtain ⟨rfl, hN, hcaps, hP, hfit, hlen⟩ := h
  have hmx : ∀ j, j < ns.length → (nAt ns j).cap.length ≤ 9223372036854775807 := fun j hj => by
    have := hcaps _ (List.mem_of_getElem? (nAt_get hj))
    unfold maxLen at this
    omega
  have hpl : ps.length ≤ 9223372036854775807 := by unfold maxLen at hlen; omega
  obtain ⟨k, rfl⟩ : ∃ k : Nat, which = k := ⟨which.toNat, by omega⟩
  have hs : (⟨#[98, 111, 117, 110, 100]⟩ : ByteArray).toList.isEmpty = false := by first | kernel_rfl | rfl | (simp; done)
  cases hf : few26 dims ns ps la lk with
  | false => exact auditUsage_out dims node k an ap aa ak ln cn la ca lk ck cp ns ps w _ hpl hmx hs hl.1 hl.2 hN hP (.inl hf)
  | true =>
    by_cases hz : ps.length = 0
    · exact auditUsage_out dims node k an ap aa ak ln cn la ca lk ck cp ns ps w _ hpl hmx hs hl.1 hl.2 hN hP (.inr hz)
    · exact auditUsage_in dims node k an ap aa ak ln cn la ca lk ck cp ns ps w _ hpl hmx hs hl.1 hl.2 hN hP hfit (by omega) hf (by omega)
end Go.Proofs.YtkdmjpakpmnhgaaGreatDoor
