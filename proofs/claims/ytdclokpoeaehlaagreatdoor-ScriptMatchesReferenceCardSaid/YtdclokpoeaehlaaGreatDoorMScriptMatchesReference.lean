/- ScriptMatchesReference: for every input the law returns true and its arguments read behind the call as before: the row over whatever heap in which the listed variables hold their data, and the tied card. -/
import Derived.Test.YtdclokpoeaehlaaGreatDoorSScrR
import Derived.Test.YtdclokpoeaehlaaGreatDoorSScrDoor
import Derived.Test.YtdclokpoeaehlaaGreatDoorSDoor
import Derived.Test.YtdclokpoeaehlaaGreatDoorSLogDoor
import Derived.Test.YtdclokpoeaehlaaGreatDoorSFacts
import Derived.Test.YtdclokpoeaehlaaGreatDoorCards
import Derived.Test.YtdclokpoeaehlaaGreatDoorTie
import Derived.WalkKit
import Derived.ProofKit
import Derived.OpenShut
import Derived.ShutString
import Derived.Below
import Derived.SizedLaws
import Derived.SevenTiedAt
import Derived.LaidMore
import Derived.Stop.Joined
namespace Go.Proofs.YtdclokpoeaehlaaGreatDoor.scriptMatchesReference
set_option linter.all false
open Go.ChangeShapes Go.WideShapes Go.ChangeAt Go.WideMaps Go.WideElems Go.RowKit
open Go.ChangeMaps (open_string shut_string)
open Go.ChangeAt
set_option linter.unusedVariables false
theorem door_met (os : Os) (args : Array Value) : laidMetH Tryz.prog Rows.scriptMatchesReferenceRow.laid ((doorW os).forCall (fun _ _ => 0) ⟨#[], args, []⟩).memory :=
  laidMetH_of_parts3 (fuel := 8) (laidMet_bits 8 300 (by kernel_rfl) (by kernel_rfl)) (by kernel_rfl) (by kernel_rfl)
set_option maxRecDepth 100000 in
theorem lifted (os : Os) (started : os.Started) (H : Type) (enc : TypeId × Value → H) :
    ReturnsInHanded {} Tryz.checked os 9 .any (fun w args => (Rows.scriptMatchesReferenceSpec.pre enc Tryz.prog Tryz.f9 Rows.scriptMatchesReferenceRow.domain false w args ∧ laidMetH Tryz.prog Rows.scriptMatchesReferenceRow.laid w) ∧ sizedMet enc Tryz.prog Tryz.f9 (OpenSpec.ofChange Rows.scriptMatchesReferenceSpec) false w args)
      (Rows.scriptMatchesReferenceSpec.post enc Tryz.prog Tryz.f9 false true false false) := by
  refine handed_and_shaped (C := Tryz.checked) (X := fun w _ => laidMetH Tryz.prog Rows.scriptMatchesReferenceRow.laid w) (fun _ _ _ hh h => h.of_heap hh) own started (by kernel_rfl) Tryz.func9
    (ChangeSpec.witness_shaped (enc := enc) (C := Tryz.checked) (os := os) (X := fun w _ => laidMetH Tryz.prog Rows.scriptMatchesReferenceRow.laid w) false (doorW os) #[.string ByteArray.empty] 8 rfl (World.shaped_of_RefB (by kernel_rfl) (by kernel_rfl)) (by kernel_rfl) (by kernel_rfl) (by kernel_rfl) (door_met os _)) ?_
  intro W base args ds gs before hval0 hW hcnd hsz0 hL hsh
  have hsz : (DataW.weightsEach Tryz.prog (Tryz.f9.params.toList ++ Rows.scriptMatchesReferenceSpec.plain.varTypes Tryz.prog) (ds ++ gs)).all (· ≤ reachBytes) = true := hsz0
  have hval : ∀ (j : Nat) t v, Tryz.f9.params[j]? = some t → args[j]? = some v → Value.okWide Tryz.prog W .any base t v := hval0
  have hW' := hW
  obtain ⟨p, q, hA0, hV, rfl, hfz, hnd⟩ := hW
  have hA : DataW.TrodAll enc Tryz.prog W 0 (fun _ => true) true Tryz.f9.params.toList args.toList ds p := hA0
  rw [Tryz.params9] at hA hval hsz
  obtain ⟨v0, vs0, d0, ds0, p0, q0, hargs, rfl, rfl, h0, r0⟩ := trodAll_cons hA
  obtain ⟨rfl, rfl, rfl⟩ := trodAll_nil r0
  obtain rfl : args = #[v0] := by cases args; simp_all
  obtain ⟨rfl, rfl⟩ := trodVars_none hV
  obtain ⟨a0, rfl, rfl, rfl, y0⟩ := open_string Tryz.underlying9 (hval 0 9 v0 rfl rfl) h0
  have w0 : a0.size ≤ 140737488351232 := by
    have z := sized_string hsz (j := 0) (t := 9) rfl rfl
    rw [Array.length_toList] at z
    exact z
  have hSW : ScrW W := scrW_of_laid hsh hL
  clear hA0 hval0 hsz0 hsz
  refine (scriptMatches_walk a0 W hSW).mono fun e W' ⟨he, bel⟩ => ?_
  subst he
  exact ⟨_, rfl, _, _, _, [], _, [], hW', trodAll_mk1 (shut_bool Tryz.underlying4 _), (trodAll_cons_mk (shut_string Tryz.underlying9 y0) trodAll_mk0), rfl, bel.frame _, fun h => by cases h⟩
theorem named : Tryz.prog.funcNamed "hammock/hammocklaw04.ScriptMatchesReference" = some 9 := by kernel_rfl
set_option maxRecDepth 100000 in
set_option maxHeartbeats 40000000 in
theorem facts : joinedFacts Tryz.prog 9 Tryz.f9 Rows.scriptMatchesReferenceSpec Rows.scriptMatchesReferenceRow = true := by
  unfold joinedFacts
  rw [fLaidOut, fMapsRowed, fStops, fStopKnobs, fPlainKeys, fStopsHeard, fMay, fLifts, fMake]
  repeat' (with_reducible refine band ?_ ?_)
  all_goals (as_aux_lemma => kernel_rfl)
theorem instance_ : Tryz.f9.isInstance Tryz.prog Rows.scriptMatchesReferenceRow.origin Rows.scriptMatchesReferenceRow.targs := of_decide_eq_true (by kernel_rfl)
theorem wrapper_ : Tryz.f9.isWrapper Tryz.prog Rows.scriptMatchesReferenceRow.wrapper Rows.scriptMatchesReferenceRow.mainSum := by
  unfold Func.isWrapper; first | (rw [if_pos (by decide +kernel)]; kernel_rfl) | (rw [if_neg (by decide +kernel)]; exact ⟨rfl, rfl⟩)
theorem over : Rows.ScriptMatchesReferenceSaid :=
  OpenClaim.holds_of_wide 9 Tryz.f9 rfl rfl rfl rfl rfl rfl rfl ⟨rfl, rfl, rfl, rfl, rfl⟩ rfl rfl rfl rfl rfl named Tryz.func9 facts
    instance_ wrapper_ (fun os started H enc _ => lifted os started H enc)
theorem byText : Rows.scriptMatchesReferenceRow.wfByText (OpenSpec.ofChange Rows.scriptMatchesReferenceSpec) = true := by kernel_rfl
theorem looks_ : true = Tryz.prog.looks [] := by kernel_rfl
theorem goes_ : false = Rows.scriptMatchesReferenceRow.goesBy Tryz.prog := by kernel_rfl
theorem params_ : ([9].all fun u => !Tryz.prog.wantsStandIn u) = true := by kernel_rfl
theorem proved : Rows.ScriptMatchesReferenceCardSaid :=
  Claim7.holds_tied_plain_at .later [] [.data, .data, .data, .data, .handle, .sentinel, .sentinel, .data, .data, .widerDeep, .pinned] true (true, "e0f649cd1df9cc1ad8730738a8d954ff6d6eee0278d1adbcd8f6278b92849110") true
    over (fun _ h => by cases h) byText (fun _ h => by cases h) scriptMatchesReference_row_tie rfl ⟨rfl, rfl⟩ fMain rfl
    (fun f fn hf hfn => by
      obtain rfl : f = 9 := (Option.some.inj (named.symm.trans hf)).symm
      obtain rfl : fn = Tryz.f9 := (Option.some.inj (Tryz.func9.symm.trans hfn)).symm
      exact ⟨looks_, fun j t ht => by
        rw [Tryz.params9] at ht
        have hm : t ∈ [9] := by simpa using Array.mem_of_getElem? ht
        exact (show Tryz.prog.wantsStandIn t = false by simpa using List.all_eq_true.1 params_ t hm)⟩)
    goes_
#print axioms proved
end Go.Proofs.YtdclokpoeaehlaaGreatDoor.scriptMatchesReference
namespace Go.Proofs.YtdclokpoeaehlaaGreatDoor
/-- The card, under a short name. -/
theorem scriptMatchesReference_holds : Rows.ScriptMatchesReferenceCardSaid := scriptMatchesReference.proved
end Go.Proofs.YtdclokpoeaehlaaGreatDoor
