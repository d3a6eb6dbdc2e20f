/- ScriptLines: for every input the law returns true and its arguments read behind the call as before: the row over whatever heap in which the listed variables hold their data, and the tied card. -/
import Derived.Test.YtdclokpoeaehlaaGreatDoorSScrQ
import Derived.Test.YtdclokpoeaehlaaGreatDoorSScrDoor
import Derived.Test.YtdclokpoeaehlaaGreatDoorSDoor
import Derived.Test.YtdclokpoeaehlaaGreatDoorSLogDoor
import Derived.Test.YtdclokpoeaehlaaGreatDoorSFacts
import Derived.Test.YtdclokpoeaehlaaGreatDoorCards
import Derived.Test.YtdclokpoeaehlaaGreatDoorTie
import Derived.WalkKit
import Derived.ProofKit
import Derived.OpenShut
import Derived.ShutString
import Derived.Below
import Derived.SizedLaws
import Derived.SevenTiedAt
import Derived.LaidMore
import Derived.Stop.Joined
namespace Go.Proofs.YtdclokpoeaehlaaGreatDoor.scriptLines
set_option linter.all false
open Go.ChangeShapes Go.WideShapes Go.ChangeAt Go.WideMaps Go.WideElems Go.RowKit
open Go.ChangeMaps (open_string shut_string)
open Go.ChangeAt
set_option linter.unusedVariables false
theorem door_met (os : Os) (args : Array Value) : laidMetH Tryz.prog Rows.scriptLinesRow.laid ((doorW os).forCall (fun _ _ => 0) ⟨#[], args, []⟩).memory :=
  laidMetH_of_parts3 (fuel := 8) (laidMet_bits 8 300 (by kernel_rfl) (by kernel_rfl)) (by kernel_rfl) (by kernel_rfl)
set_option maxRecDepth 100000 in
theorem lifted (os : Os) (started : os.Started) (H : Type) (enc : TypeId × Value → H) :
    ReturnsInHanded {} Tryz.checked os 10 .any (fun w args => (Rows.scriptLinesSpec.pre enc Tryz.prog Tryz.f10 Rows.scriptLinesRow.domain false w args ∧ laidMetH Tryz.prog Rows.scriptLinesRow.laid w) ∧ sizedMet enc Tryz.prog Tryz.f10 (OpenSpec.ofChange Rows.scriptLinesSpec) false w args)
      (Rows.scriptLinesSpec.post enc Tryz.prog Tryz.f10 false true false false) := by
  refine handed_and_shaped (C := Tryz.checked) (X := fun w _ => laidMetH Tryz.prog Rows.scriptLinesRow.laid w) (fun _ _ _ hh h => h.of_heap hh) own started (by kernel_rfl) Tryz.func10
    (ChangeSpec.witness_shaped (enc := enc) (C := Tryz.checked) (os := os) (X := fun w _ => laidMetH Tryz.prog Rows.scriptLinesRow.laid w) false (doorW os) #[.agg #[.int .i64 0, .int .i64 0, .int .i64 0, .int .i64 0, .bool false, .slice none 0 0]] 8 rfl (World.shaped_of_RefB (by kernel_rfl) (by kernel_rfl)) (by kernel_rfl) (by kernel_rfl) (by kernel_rfl) (door_met os _)) ?_
  intro W base args ds gs before hval0 hW hcnd hsz0 hL hsh
  have hsz : (DataW.weightsEach Tryz.prog (Tryz.f10.params.toList ++ Rows.scriptLinesSpec.plain.varTypes Tryz.prog) (ds ++ gs)).all (· ≤ reachBytes) = true := hsz0
  have hval : ∀ (j : Nat) t v, Tryz.f10.params[j]? = some t → args[j]? = some v → Value.okWide Tryz.prog W .any base t v := hval0
  have hW' := hW
  obtain ⟨p, q, hA0, hV, rfl, hfz, hnd⟩ := hW
  have hA : DataW.TrodAll enc Tryz.prog W 0 (fun _ => true) true Tryz.f10.params.toList args.toList ds p := hA0
  rw [Tryz.params10] at hA hval hsz
  obtain ⟨v0, vs0, d0, ds0, p0, q0, hargs, rfl, rfl, h0, r0⟩ := trodAll_cons hA
  obtain ⟨rfl, rfl, rfl⟩ := trodAll_nil r0
  obtain rfl : args = #[v0] := by cases args; simp_all
  obtain ⟨rfl, rfl⟩ := trodVars_none hV
  have k0 := h0
  have lt0 : ∀ x ∈ p0, x.block < W.heap.size := by obtain ⟨m, hm⟩ := k0; exact DataW.trod_lt m _ _ _ hm
  obtain ⟨o0, a0, c0, rfl, i0⟩ := open_op (hval 0 58 v0 rfl rfl) h0
  have hSW : ScrW W := scrW_of_laid hsh hL
  clear hA0 hval0 hsz0 hsz
  refine (scriptLines_walk o0.kind o0.id o0.cls o0.n o0.flag _ o0.am W i0 hSW).mono fun e W' ⟨he, bel⟩ => ?_
  subst he
  exact ⟨_, rfl, _, _, _, [], _, [], hW', trodAll_mk1 (shut_bool Tryz.underlying4 _), (trodAll_cons_mk (Below.trod laidOut (by kernel_rfl) (of_decide_eq_true (by kernel_rfl)) k0 bel lt0) trodAll_mk0), rfl, bel.frame _, fun h => by cases h⟩
theorem named : Tryz.prog.funcNamed "hammock/hammocklaw04.ScriptLines" = some 10 := by kernel_rfl
set_option maxRecDepth 100000 in
set_option maxHeartbeats 40000000 in
theorem facts : joinedFacts Tryz.prog 10 Tryz.f10 Rows.scriptLinesSpec Rows.scriptLinesRow = true := by
  unfold joinedFacts
  rw [fLaidOut, fMapsRowed, fStops, fStopKnobs, fPlainKeys, fStopsHeard, fMay, fLifts, fMake]
  repeat' (with_reducible refine band ?_ ?_)
  all_goals (as_aux_lemma => kernel_rfl)
theorem instance_ : Tryz.f10.isInstance Tryz.prog Rows.scriptLinesRow.origin Rows.scriptLinesRow.targs := of_decide_eq_true (by kernel_rfl)
theorem wrapper_ : Tryz.f10.isWrapper Tryz.prog Rows.scriptLinesRow.wrapper Rows.scriptLinesRow.mainSum := by
  unfold Func.isWrapper; first | (rw [if_pos (by decide +kernel)]; kernel_rfl) | (rw [if_neg (by decide +kernel)]; exact ⟨rfl, rfl⟩)
theorem over : Rows.ScriptLinesSaid :=
  OpenClaim.holds_of_wide 10 Tryz.f10 rfl rfl rfl rfl rfl rfl rfl ⟨rfl, rfl, rfl, rfl, rfl⟩ rfl rfl rfl rfl rfl named Tryz.func10 facts
    instance_ wrapper_ (fun os started H enc _ => lifted os started H enc)
theorem byText : Rows.scriptLinesRow.wfByText (OpenSpec.ofChange Rows.scriptLinesSpec) = true := by kernel_rfl
theorem looks_ : true = Tryz.prog.looks [] := by kernel_rfl
theorem goes_ : false = Rows.scriptLinesRow.goesBy Tryz.prog := by kernel_rfl
theorem params_ : ([58].all fun u => !Tryz.prog.wantsStandIn u) = true := by kernel_rfl
theorem proved : Rows.ScriptLinesCardSaid :=
  Claim7.holds_tied_plain_at .later [] [.data, .data, .data, .data, .handle, .sentinel, .sentinel, .data, .data, .widerDeep, .pinned] true (true, "e0f649cd1df9cc1ad8730738a8d954ff6d6eee0278d1adbcd8f6278b92849110") true
    over (fun _ h => by cases h) byText (fun _ h => by cases h) scriptLines_row_tie rfl ⟨rfl, rfl⟩ fMain rfl
    (fun f fn hf hfn => by
      obtain rfl : f = 10 := (Option.some.inj (named.symm.trans hf)).symm
      obtain rfl : fn = Tryz.f10 := (Option.some.inj (Tryz.func10.symm.trans hfn)).symm
      exact ⟨looks_, fun j t ht => by
        rw [Tryz.params10] at ht
        have hm : t ∈ [58] := by simpa using Array.mem_of_getElem? ht
        exact (show Tryz.prog.wantsStandIn t = false by simpa using List.all_eq_true.1 params_ t hm)⟩)
    goes_
#print axioms proved
end Go.Proofs.YtdclokpoeaehlaaGreatDoor.scriptLines
namespace Go.Proofs.YtdclokpoeaehlaaGreatDoor
/-- The card, under a short name. -/
theorem scriptLines_holds : Rows.ScriptLinesCardSaid := scriptLines.proved
end Go.Proofs.YtdclokpoeaehlaaGreatDoor
