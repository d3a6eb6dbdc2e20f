/- What the listed variables give when a call begins; a wrap that keeps the world's shape beside a condition on memory. -/
import Derived.Test.YtdclokpoeaehlaaGreatDoorGk
import Derived.Test.YtdclokpoeaehlaaGreatDoorRows
import Derived.ProofKit
import Derived.LaidMore
import Derived.OpenShut
import Derived.Stop.Joined
import Derived.SizedLaws
import Derived.HandedShaped
import Derived.Stop.LaidErr
import Derived.Lib.LaidTab
import Derived.Shelf.Vars
import Derived.LaidHandle
import Derived.Lib.SmallJoins
import Derived.Stop.ErrReads
namespace Go.Proofs.YtdclokpoeaehlaaGreatDoor
set_option linter.all false
open Go.ChangeShapes Go.WideShapes Go.ChangeAt Go.WideMaps Go.WideElems Go.RowKit

theorem own : ownKnob Tryz.prog.godebug = none := by kernel_rfl
theorem laidOut : laidOutB Tryz.prog = true := by kernel_rfl
/-- The wrap with a condition on memory, the world's shape kept. -/
theorem handed_and_shaped {H : Type} {enc : TypeId × Value → H} {a : Assume} {C : Checked} {os : Os} {f : FuncId} {fn : Func} {s : ChangeSpec} {conds : List PathCond} {apart fresh handsOn again : Bool} {X : World → Array Value → Prop}
    (hX : ∀ (w w' : World) (args : Array Value), w.heap = w'.heap → X w args → X w' args)
    (own : ownKnob C.prog.godebug = none) (started : os.Started) (noInit : C.prog.inits.idxOf? f = none) (hfn : C.prog.funcs[f]? = some fn)
    (witness : ∃ (w : World) (tape : Tape) (i : Input), w.os = os ∧ (w.forCall tape i).Shaped C.prog ∧ i.vars = [] ∧ Input.okWide C.prog (w.forCall tape i) .any w.heap.size f i ∧
      ((s.pre enc C.prog fn conds apart (w.forCall tape i).memory i.args ∧ X (w.forCall tape i).memory i.args) ∧ sizedMet enc C.prog fn (OpenSpec.ofChange s) apart (w.forCall tape i).memory i.args) ∧ a.holds C.prog (lone (Frame.enter C.prog f i.args .normal) [] (w.forCall tape i)))
    (contract : ∀ (W : World) (base : Nat) (args : Array Value) (ds gs : List (DataW H)) (before : List MemPlace),
      (∀ (j : Nat) t v, fn.params[j]? = some t → args[j]? = some v → Value.okWide C.prog W .any base t v) →
      DataW.Whole enc C.prog fn.params.toList s.vars apart W args.toList ds gs before →
      conds.all (PathCond.test C.prog ⟨fn.params.toList, ds, s.plain.varTypes C.prog, gs⟩) = true →
      (DataW.weightsEach C.prog (fn.params.toList ++ s.plain.varTypes C.prog) (ds ++ gs)).all (· ≤ reachBytes) = true → X W args →
      W.ShapedOpen C.prog →
      Calls C.prog f args W fun e W' => ∃ v, e = .returned v ∧ s.post enc C.prog fn apart fresh handsOn again W args v W') :
    ReturnsInHanded a C os f .any (fun w args => (s.pre enc C.prog fn conds apart w args ∧ X w args) ∧ sizedMet enc C.prog fn (OpenSpec.ofChange s) apart w args) (s.post enc C.prog fn apart fresh handsOn again) := by
  refine returnsInHanded_of_calls own started noInit witness ?_
  intro w tape i _ hsh _ hok hpre hholds
  obtain ⟨_, _, _, fn', hfn', _, _, _, _, hval⟩ := hok
  have e : fn' = fn := Option.some.inj (hfn'.symm.trans hfn)
  subst e
  obtain ⟨⟨⟨ds, gs, before, hw, hc⟩, hx⟩, hz⟩ := hpre
  have hw' := DataW.Whole.of_heap (w' := w.forCall tape i) (by rfl) hw
  refine (contract (w.forCall tape i) w.heap.size i.args ds gs before hval hw' hc (hz.weights hw) (hX _ _ _ (by rfl) hx) hsh).mono fun e W' ⟨v, he, hp⟩ => ?_
  subst he
  exact ChangeSpec.post_blind hp
theorem maxLen_of_shape {W : World} (h : W.ShapedOpen Tryz.prog) : ∃ m, W.cell? ⟨8, 0, none⟩ = some (.int .i64 m) :=
  cell_of_shapedOpen_int (t := 3) (zero := #[.int .i64 0]) h (of_decide_eq_true (by kernel_rfl)) (by kernel_rfl) rfl (by kernel_rfl) (by kernel_rfl) Tryz.underlying3

/-- A listed array of strings: each of its cells. -/
theorem laid_strings {P : Program} {W : World} {n : String} {g ta te : Nat} {len : Nat} {ss : List (List UInt8)} {r : List (String × DataW Unit)} {ps : List MemPlace}
    (h : DataW.LaidVars P W ((n, .agg (ss.map fun s => .lit (.string s))) :: r) ps) (hg : P.globalNamed n = some g) (ht : (P.globals[g]?).map (·.type) = some ta)
    (ha : P.underlying ta = some (.array len te)) (hs : P.underlying te = some .string) (hc : P.cellsOf te = 1) :
    (∀ i, i < ss.length → W.cell? ⟨g, i, none⟩ = some (.string ⟨(ss.getD i []).toArray⟩)) ∧ ∃ q, DataW.LaidVars P W r q := by
  obtain ⟨g0, t0, cs0, f0, p0, q0, hg0, ht0, hv0, hd0, hr, _⟩ := h
  refine ⟨?_, q0, hr⟩
  obtain rfl := Option.some.inj (hg.symm.trans hg0)
  obtain rfl := Option.some.inj (ht.symm.trans ht0)
  obtain ⟨xs, m1, rfl, hx1, hlen, hn, hel⟩ := DataW.trod_array ha hd0
  simp only [Prod.mk.injEq, DataW.agg.injEq] at hx1
  intro i hi
  have hxl : xs.length = ss.length := by have := congrArg List.length hx1.1; simpa using this.symm
  have h1 := hel i (by omega)
  rw [hc, Nat.mul_one] at h1
  rw [List.getElem?_eq_getElem (by omega)] at h1
  obtain ⟨s, e1, e2, _⟩ := DataW.trod_string hs h1
  have hcell := World.var?_cell hg hv0 i
  rw [hcell]
  have e3 : cs0[i]? = some (.string s) := by
    have : (cs0.toList.drop i)[0]? = some (Value.string s) := by
      have h2 : ((cs0.toList.drop i).take 1)[0]? = some (Value.string s) := by rw [e1]; rfl
      rw [List.getElem?_take] at h2; simpa using h2
    rw [List.getElem?_drop] at this
    simpa using this
  rw [e3]
  have e4 : (xs.map (·.1))[i]? = some (DataW.lit (.string s.data.toList)) := by
    rw [List.getElem?_map, List.getElem?_eq_getElem (by omega), e2]; rfl
  rw [← hx1.1, List.getElem?_map] at e4
  rw [List.getElem?_eq_getElem hi] at e4
  simp only [Option.map_some, Option.some.injEq, DataW.lit.injEq, Lit.string.injEq] at e4
  rw [List.getD_eq_getElem?_getD, List.getElem?_eq_getElem hi]
  simp [e4]
theorem c1String : Tryz.prog.cellsOf 9 = 1 := by kernel_rfl
theorem gNames : Tryz.prog.globalNamed "hammock/log.names" = some 0 := by kernel_rfl
theorem tNames : (Tryz.prog.globals[0]?).map (·.type) = some 74 := by kernel_rfl
theorem uNames : Tryz.prog.underlying 74 = some (.array 12 9) := by kernel_rfl
theorem gCodes : Tryz.prog.globalNamed "hammock/fault.names" = some 3 := by kernel_rfl
theorem tCodes : (Tryz.prog.globals[3]?).map (·.type) = some 117 := by kernel_rfl
theorem uCodes : Tryz.prog.underlying 117 = some (.array 11 9) := by kernel_rfl
theorem names_of_met {W : World} {r : List (String × DataW Unit)} (h : laidMet Tryz.prog (("hammock/log.names", Rows.laid_hammock_log_names) :: r) W) : NamesAt W := by
  obtain ⟨ps, hv, _⟩ := h
  have h1 := (laid_strings (ss := decNames) hv gNames tNames uNames Tryz.underlying9 c1String).1
  intro i hi
  rw [h1 i hi]; rfl
theorem codes_of_met {W : World} {r : List (String × DataW Unit)} (h : laidMet Tryz.prog (("hammock/fault.names", Rows.laid_hammock_fault_names) :: r) W) : CodesAt W := by
  obtain ⟨ps, hv, _⟩ := h
  have h1 := (laid_strings (ss := codeNames.map (·.data.toList)) hv gCodes tCodes uCodes Tryz.underlying9 c1String).1
  intro i hi
  rw [h1 i hi]
  have : i = 0 ∨ i = 1 ∨ i = 2 ∨ i = 3 ∨ i = 4 ∨ i = 5 ∨ i = 6 ∨ i = 7 ∨ i = 8 ∨ i = 9 ∨ i = 10 := by omega
  rcases this with rfl | rfl | rfl | rfl | rfl | rfl | rfl | rfl | rfl | rfl | rfl <;> rfl
theorem tab_of_met {W : World} {r : List (String × DataW Unit)} (h : laidMet Tryz.prog (("internal/strconv.uint64pow10", Rows.laid_internal_strconv_uint64pow10) :: r) W) : Lib.TabIs Tryz.prog W "internal/strconv.uint64pow10" .u64 Lib.pow10Tab :=
  Lib.tabIs_of_head (zs := Lib.pow10Tab) (n := 20) (g := 9) (t := 177) (e := 164) (by kernel_rfl) (by kernel_rfl) (by kernel_rfl) (by kernel_rfl) (by kernel_rfl) (by kernel_rfl) h
theorem star_err : "*" ++ "errors.errorString" = "*errors.errorString" := by decide
theorem errName1 (u : TypeId) (h : Tryz.prog.typeName? 3 u = some "*errors.errorString") : u = 89 :=
  typeName_ptr_named (nm := "errors.errorString") (by rw [star_err]; kernel_rfl) (by kernel_rfl) (by decide) u (by rw [star_err]; exact h)
theorem rng_of_met {W : World} {r : List (String × DataW Unit)} (h : laidMet Tryz.prog (("strconv.ErrRange", Rows.laid_strconv_ErrRange) :: r) W) : ∃ tp p, W.var? Tryz.prog "strconv.ErrRange" = some #[.iface tp p] := by
  obtain ⟨a, s, h1, _⟩ := Go.laid_sentinel (g := 7) (ti := 44) (tp := 89) (te := 91) (ts := 9) (ms := _) (f := _) h (by kernel_rfl) (by kernel_rfl) Tryz.underlying44 errName1 Tryz.underlying89 Tryz.underlying91 rfl rfl Tryz.underlying9 (by kernel_rfl) (by kernel_rfl)
  exact ⟨_, _, h1⟩
theorem gErr : Tryz.prog.globalNamed "errors.errorType" = some 5 := by kernel_rfl
theorem tErr : (Tryz.prog.cutTypes.find? (·.1 == "internal/reflectlite.rtype")).map (·.2) = some 149 := by kernel_rfl
theorem errRow : ((List.range Tryz.prog.types.size).filter fun t => Tryz.prog.rowNamed t [101, 114, 114, 111, 114]) = [44] := by kernel_rfl
theorem errHandle : typeHandle Tryz.prog 44 = .pointer (some ⟨14, 44, none⟩) := by kernel_rfl
theorem errType_of_handles {W : World} {l : List (String × DataW Unit)} (h : handlesMet Tryz.prog l W) (hx : ("errors.errorType", Rows.laid_errors_errorType) ∈ l) : ErrType W := by
  have h' : ∃ name u ty, (Rows.laid_errors_errorType (H := Unit)).handleName? = some name ∧ (Tryz.prog.cutTypes.find? (·.1 == "internal/reflectlite.rtype")).map (·.2) = some u ∧ ty < Tryz.prog.types.size ∧ Tryz.prog.rowNamed ty name = true ∧
      W.var? Tryz.prog "errors.errorType" = some #[.iface u (.agg #[typeHandle Tryz.prog ty])] := h _ hx
  obtain ⟨name, u, ty, e1, e2, e3, e4, e5⟩ := h'
  have en : name = [101, 114, 114, 111, 114] := (Option.some.inj e1).symm
  subst en
  obtain rfl := Option.some.inj (tErr.symm.trans e2)
  have hm : ty ∈ (List.range Tryz.prog.types.size).filter fun t => Tryz.prog.rowNamed t [101, 114, 114, 111, 114] := List.mem_filter.2 ⟨List.mem_range.2 e3, e4⟩
  rw [errRow] at hm
  obtain rfl := List.mem_singleton.1 hm
  rw [errHandle] at e5
  simpa [ErrType] using World.var?_cell gErr e5 0
theorem syn_of_met {W : World} {r : List (String × DataW Unit)} (h : laidMet Tryz.prog (("strconv.ErrSyntax", Rows.laid_strconv_ErrSyntax) :: r) W) : ∃ tp p, W.var? Tryz.prog "strconv.ErrSyntax" = some #[.iface tp p] := by
  obtain ⟨a, s, h1, _⟩ := Go.laid_sentinel (g := 6) (ti := 44) (tp := 89) (te := 91) (ts := 9) (ms := _) (f := _) h (by kernel_rfl) (by kernel_rfl) Tryz.underlying44 errName1 Tryz.underlying89 Tryz.underlying91 rfl rfl Tryz.underlying9 (by kernel_rfl) (by kernel_rfl)
  exact ⟨_, _, h1⟩
/-- What the rows of the log's laws lay. -/
theorem logW_of_laid {W : World} (hsh : W.ShapedOpen Tryz.prog) (h : laidMetH Tryz.prog Rows.logCountsRow.laid W) : LogW W := by
  have h0 : laidMet Tryz.prog [("math/bits.deBruijn32tab", Rows.laid_math_bits_deBruijn32tab), ("math/bits.deBruijn64tab", Rows.laid_math_bits_deBruijn64tab), ("internal/strconv.uint64pow10", Rows.laid_internal_strconv_uint64pow10), ("unicode/utf8.acceptRanges", Rows.laid_unicode_utf8_acceptRanges), ("strconv.ErrRange", Rows.laid_strconv_ErrRange), ("strconv.ErrSyntax", Rows.laid_strconv_ErrSyntax), ("hammock/fault.names", Rows.laid_hammock_fault_names), ("hammock/log.names", Rows.laid_hammock_log_names), ("unicode/utf8.first", Rows.laid_unicode_utf8_first)] W ∧ handlesMet Tryz.prog [("errors.errorType", Rows.laid_errors_errorType)] W := h
  have t3 := h0.1.tail.tail
  have t5 := t3.tail.tail
  have t6 := t5.tail
  have t7 := t6.tail
  have t8 := t7.tail
  exact ⟨⟨tab_of_met t3, maxLen_of_shape hsh, syn_of_met t6, rng_of_met t5⟩, names_of_met t8, errType_of_handles h0.2 (List.mem_singleton.2 rfl), codes_of_met t7⟩
end Go.Proofs.YtdclokpoeaehlaaGreatDoor
