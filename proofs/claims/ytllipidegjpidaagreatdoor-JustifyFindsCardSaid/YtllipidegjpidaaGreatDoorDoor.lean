/- What the listed variables give: the tables of names. -/
import Derived.Test.YtllipidegjpidaaGreatDoorKit
import Derived.Test.YtllipidegjpidaaGreatDoorJC
import Derived.Test.YtllipidegjpidaaGreatDoorProg
import Derived.Test.YtllipidegjpidaaGreatDoorRows
import Derived.ProofKit
import Derived.LaidMore
import Derived.OpenShut
import Derived.Stop.Joined
import Derived.SizedLaws
import Derived.Deep.Slices
import Derived.LaidOnce
namespace Go.Proofs.YtllipidegjpidaaGreatDoor
set_option linter.all false
open Go.ChangeShapes Go.WideShapes Go.ChangeAt Go.WideMaps Go.WideElems Go.RowKit

theorem own : ownKnob Tryz.prog.godebug = none := by kernel_rfl
theorem laidOut : laidOutB Tryz.prog = true := by kernel_rfl
/-- A listed array of strings: each of its cells. -/
theorem laid_strings {P : Program} {W : World} {n : String} {g ta te : Nat} {len : Nat} {ss : List (List UInt8)} {r : List (String × DataW Unit)} {ps : List MemPlace}
    (h : DataW.LaidVars P W ((n, .agg (ss.map fun s => .lit (.string s))) :: r) ps) (hg : P.globalNamed n = some g) (ht : (P.globals[g]?).map (·.type) = some ta)
    (ha : P.underlying ta = some (.array len te)) (hs : P.underlying te = some .string) (hc : P.cellsOf te = 1) :
    (∀ i, i < ss.length → W.cell? ⟨g, i, none⟩ = some (.string ⟨(ss.getD i []).toArray⟩)) ∧ ∃ q, DataW.LaidVars P W r q := by
  obtain ⟨g0, t0, cs0, f0, p0, q0, hg0, ht0, hv0, hd0, hr, _⟩ := h
  refine ⟨?_, q0, hr⟩
  obtain rfl := Option.some.inj (hg.symm.trans hg0)
  obtain rfl := Option.some.inj (ht.symm.trans ht0)
  obtain ⟨xs, m1, rfl, hx1, hlen, hn, hel⟩ := DataW.trod_array ha hd0
  simp only [Prod.mk.injEq, DataW.agg.injEq] at hx1
  intro i hi
  have hxl : xs.length = ss.length := by have := congrArg List.length hx1.1; simpa using this.symm
  have h1 := hel i (by omega)
  rw [hc, Nat.mul_one] at h1
  rw [List.getElem?_eq_getElem (by omega)] at h1
  obtain ⟨s, e1, e2, _⟩ := DataW.trod_string hs h1
  have hcell := World.var?_cell hg hv0 i
  rw [hcell]
  have e3 : cs0[i]? = some (.string s) := by
    have : (cs0.toList.drop i)[0]? = some (Value.string s) := by
      have h2 : ((cs0.toList.drop i).take 1)[0]? = some (Value.string s) := by rw [e1]; rfl
      rw [List.getElem?_take] at h2; simpa using h2
    rw [List.getElem?_drop] at this
    simpa using this
  rw [e3]
  have e4 : (xs.map (·.1))[i]? = some (DataW.lit (.string s.data.toList)) := by
    rw [List.getElem?_map, List.getElem?_eq_getElem (by omega), e2]; rfl
  rw [← hx1.1, List.getElem?_map] at e4
  rw [List.getElem?_eq_getElem hi] at e4
  simp only [Option.map_some, Option.some.injEq, DataW.lit.injEq, Lit.string.injEq] at e4
  rw [List.getD_eq_getElem?_getD, List.getElem?_eq_getElem hi]
  simp [e4]

theorem c1String : Tryz.prog.cellsOf 9 = 1 := by kernel_rfl
theorem gPhase : Tryz.prog.globalNamed "hammock/phase.names" = some 2 := by kernel_rfl
theorem tPhase : (Tryz.prog.globals[2]?).map (·.type) = some 227 := by kernel_rfl
theorem uSix : Tryz.prog.underlying 227 = some (.array 6 9) := by kernel_rfl
theorem gJust : Tryz.prog.globalNamed "hammock/justify.names" = some 0 := by kernel_rfl
theorem tJust : (Tryz.prog.globals[0]?).map (·.type) = some 50 := by kernel_rfl
theorem uNine : Tryz.prog.underlying 50 = some (.array 9 9) := by kernel_rfl
/-- What the row lays. -/
theorem names_of_laid {W : World} (h : laidMetH Tryz.prog Rows.justifyFindsRow.laid W) : W.cell? ⟨2, 1, none⟩ = some (.string ⟨#[112, 101, 110, 100, 105, 110, 103]⟩) ∧ VNamesAt W := by
  have h0 : laidMet Tryz.prog [("hammock/phase.names", Rows.laid_hammock_phase_names), ("hammock/justify.names", Rows.laid_hammock_justify_names)] W ∧ handlesMet Tryz.prog [("errors.errorType", Rows.laid_errors_errorType)] W := h
  obtain ⟨⟨ps, hv, _⟩, -⟩ := h0
  have h1 := laid_strings (ss := [[], [112, 101, 110, 100, 105, 110, 103], [110, 111, 109, 105, 110, 97, 116, 101, 100], [98, 111, 117, 110, 100], [116, 101, 114, 109, 105, 110, 97, 116, 105, 110, 103], [103, 111, 110, 101]]) hv gPhase tPhase uSix Tryz.underlying9 c1String
  obtain ⟨q, hv2⟩ := h1.2
  have h2 := (laid_strings (ss := verdictNames.map (·.data.toList)) hv2 gJust tJust uNine Tryz.underlying9 c1String).1
  refine ⟨h1.1 1 (by decide), fun i hi => ?_⟩
  rw [h2 i hi]
  have : i = 0 ∨ i = 1 ∨ i = 2 ∨ i = 3 ∨ i = 4 ∨ i = 5 ∨ i = 6 ∨ i = 7 ∨ i = 8 := by omega
  rcases this with rfl | rfl | rfl | rfl | rfl | rfl | rfl | rfl | rfl <;> rfl
end Go.Proofs.YtllipidegjpidaaGreatDoor
