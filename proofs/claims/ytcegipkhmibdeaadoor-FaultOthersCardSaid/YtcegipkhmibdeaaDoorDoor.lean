/- What the listed variables give: the tables of names as they lie in memory when a call begins. -/
import Derived.Test.YtcegipkhmibdeaaDoorPhaseRun
import Derived.Test.YtcegipkhmibdeaaDoorRows
import Derived.ProofKit
import Derived.LaidMore
import Derived.OpenShut
import Derived.Stop.Joined
import Derived.SizedLaws
namespace Go.Proofs.YtcegipkhmibdeaaDoor
set_option linter.all false
open Go.ChangeShapes Go.WideShapes Go.ChangeAt Go.WideMaps Go.WideElems Go.RowKit

theorem own : ownKnob Tryd.prog.godebug = none := by kernel_rfl
theorem laidOut : laidOutB Tryd.prog = true := by kernel_rfl

/-- A listed array of strings: each of its cells. -/
theorem laid_strings {P : Program} {W : World} {n : String} {g ta te : Nat} {len : Nat} {ss : List (List UInt8)} {r : List (String × DataW Unit)} {ps : List MemPlace}
    (h : DataW.LaidVars P W ((n, .agg (ss.map fun s => .lit (.string s))) :: r) ps) (hg : P.globalNamed n = some g) (ht : (P.globals[g]?).map (·.type) = some ta)
    (ha : P.underlying ta = some (.array len te)) (hs : P.underlying te = some .string) (hc : P.cellsOf te = 1) :
    (∀ i, i < ss.length → W.cell? ⟨g, i, none⟩ = some (.string ⟨(ss.getD i []).toArray⟩)) ∧ ∃ q, DataW.LaidVars P W r q := by
  obtain ⟨g0, t0, cs0, f0, p0, q0, hg0, ht0, hv0, hd0, hr, _⟩ := h
  refine ⟨?_, q0, hr⟩
  obtain rfl := Option.some.inj (hg.symm.trans hg0)
  obtain rfl := Option.some.inj (ht.symm.trans ht0)
  obtain ⟨xs, m1, rfl, hx1, hlen, hn, hel⟩ := DataW.trod_array ha hd0
  simp only [Prod.mk.injEq, DataW.agg.injEq] at hx1
  intro i hi
  have hxl : xs.length = ss.length := by have := congrArg List.length hx1.1; simpa using this.symm
  have h1 := hel i (by omega)
  rw [hc, Nat.mul_one] at h1
  rw [List.getElem?_eq_getElem (by omega)] at h1
  obtain ⟨s, e1, e2, _⟩ := DataW.trod_string hs h1
  have hcell := World.var?_cell hg hv0 i
  rw [hcell]
  have e3 : cs0[i]? = some (.string s) := by
    have : (cs0.toList.drop i)[0]? = some (Value.string s) := by
      have h2 : ((cs0.toList.drop i).take 1)[0]? = some (Value.string s) := by rw [e1]; rfl
      rw [List.getElem?_take] at h2; simpa using h2
    rw [List.getElem?_drop] at this
    simpa using this
  rw [e3]
  have e4 : (xs.map (·.1))[i]? = some (DataW.lit (.string s.data.toList)) := by
    rw [List.getElem?_map, List.getElem?_eq_getElem (by omega), e2]; rfl
  rw [← hx1.1, List.getElem?_map] at e4
  rw [List.getElem?_eq_getElem hi] at e4
  simp only [Option.map_some, Option.some.injEq, DataW.lit.injEq, Lit.string.injEq] at e4
  rw [List.getD_eq_getElem?_getD, List.getElem?_eq_getElem hi]
  simp [e4]

theorem gPhase : Tryd.prog.globalNamed "hammock/phase.names" = some 0 := by kernel_rfl
theorem tPhase : (Tryd.prog.globals[0]?).map (·.type) = some 120 := by kernel_rfl
theorem uPhase : Tryd.prog.underlying 120 = some (.array 6 9) := by kernel_rfl
theorem c1String : Tryd.prog.cellsOf 9 = 1 := by kernel_rfl
/-- phase.names, as it is listed. -/
theorem names_of_laid {W : World} {r : List (String × DataW Unit)} {ps : List MemPlace} (h : DataW.LaidVars Tryd.prog W (("hammock/phase.names", Rows.laid_hammock_phase_names) :: r) ps) : NamesAt W := by
  have h1 := (laid_strings (ss := [[], [112, 101, 110, 100, 105, 110, 103], [110, 111, 109, 105, 110, 97, 116, 101, 100], [98, 111, 117, 110, 100], [116, 101, 114, 109, 105, 110, 97, 116, 105, 110, 103], [103, 111, 110, 101]]) h gPhase tPhase uPhase Tryd.underlying9 c1String).1
  intro i hi
  rw [h1 i hi]
  have : i = 0 ∨ i = 1 ∨ i = 2 ∨ i = 3 ∨ i = 4 ∨ i = 5 := by omega
  rcases this with rfl | rfl | rfl | rfl | rfl | rfl <;> rfl

/-- A slice of int that came in, as the walks read it. -/
theorem ints_of {H : Type} {enc : TypeId × Value → H} {W : World} {base : Nat} {a : Option Addr} {len cap fuel : Nat} {x : DataW H × List MemPlace} {sp : Nat → Bool} {held : Bool}
    (hf : DataW.trod enc Tryd.prog W base sp held fuel 27 [.slice a len cap] = some x) (hlt : ∀ p ∈ x.2, p.block < W.heap.size) : ∃ zs, zs.length = len ∧ IntsAt W (.slice a len cap) zs := by
  rcases open_ints Tryd.underlying27 Tryd.underlying3 (by kernel_rfl) hf with ⟨hcs, _⟩ | ⟨y, l, c, zs, hcs, _, hl, hm, hz, hx, hcell, hwz⟩
  · simp at hcs
    obtain ⟨rfl, rfl, rfl⟩ := hcs
    exact ⟨[], rfl, _, _, rfl, .inl rfl⟩
  · simp at hcs
    obtain ⟨rfl, rfl, rfl⟩ := hcs
    have hzl : len ≤ zs.length := by rw [hz]; split <;> omega
    by_cases h0 : len = 0
    · subst h0; exact ⟨[], rfl, _, _, rfl, .inl rfl⟩
    · obtain ⟨b, off, rfl, hc⟩ := ints_at hcell (by omega)
      have hb : b < W.heap.size := by
        have := hc 0 (by omega)
        rcases Nat.lt_or_ge b W.heap.size with h1 | h1
        · exact h1
        · simp [World.cell?, Array.getElem?_eq_none h1] at this
      refine ⟨zs.take len, by simp; omega, _, cap, by simp [Nat.min_eq_left hzl], .inr ⟨b, off, rfl, hb, fun j hj => ?_⟩⟩
      simp only [List.length_take] at hj
      rw [hc j (by omega), List.getD_eq_getElem?_getD, List.getD_eq_getElem?_getD, List.getElem?_take, if_pos (by omega)]
end Go.Proofs.YtcegipkhmibdeaaDoor
