/- ScriptWrites: for every input the law returns true and its arguments read behind the call as before: the row over whatever heap in which the listed variables hold their data, and the tied card. -/
import Derived.Test.YtdclokpoeaehlaaGreatDoorSScrS
import Derived.Test.YtdclokpoeaehlaaGreatDoorSScrDoor
import Derived.Test.YtdclokpoeaehlaaGreatDoorSDoor
import Derived.Test.YtdclokpoeaehlaaGreatDoorSLogDoor
import Derived.Test.YtdclokpoeaehlaaGreatDoorSFacts
import Derived.Test.YtdclokpoeaehlaaGreatDoorCards
import Derived.Test.YtdclokpoeaehlaaGreatDoorTie
import Derived.WalkKit
import Derived.ProofKit
import Derived.OpenShut
import Derived.ShutString
import Derived.Below
import Derived.SizedLaws
import Derived.SevenTiedAt
import Derived.LaidMore
import Derived.Stop.Joined
namespace Go.Proofs.YtdclokpoeaehlaaGreatDoor.scriptWrites
set_option linter.all false
open Go.ChangeShapes Go.WideShapes Go.ChangeAt Go.WideMaps Go.WideElems Go.RowKit
open Go.ChangeMaps (open_string shut_string)
open Go.ChangeAt
set_option linter.unusedVariables false
theorem door_met (os : Os) (args : Array Value) : laidMetH Tryz.prog Rows.scriptWritesRow.laid ((doorW os).forCall (fun _ _ => 0) ⟨#[], args, []⟩).memory :=
  laidMetH_of_parts3 (fuel := 8) (laidMet_bits 8 300 (by kernel_rfl) (by kernel_rfl)) (by kernel_rfl) (by kernel_rfl)
set_option maxRecDepth 100000 in
theorem lifted (os : Os) (started : os.Started) (H : Type) (enc : TypeId × Value → H) :
    ReturnsInHanded {} Tryz.checked os 11 .any (fun w args => (Rows.scriptWritesSpec.pre enc Tryz.prog Tryz.f11 Rows.scriptWritesRow.domain false w args ∧ laidMetH Tryz.prog Rows.scriptWritesRow.laid w) ∧ sizedMet enc Tryz.prog Tryz.f11 (OpenSpec.ofChange Rows.scriptWritesSpec) false w args)
      (Rows.scriptWritesSpec.post enc Tryz.prog Tryz.f11 false true false false) := by
  refine handed_and_shaped (C := Tryz.checked) (X := fun w _ => laidMetH Tryz.prog Rows.scriptWritesRow.laid w) (fun _ _ _ hh h => h.of_heap hh) own started (by kernel_rfl) Tryz.func11
    (ChangeSpec.witness_shaped (enc := enc) (C := Tryz.checked) (os := os) (X := fun w _ => laidMetH Tryz.prog Rows.scriptWritesRow.laid w) false (doorW os) #[.slice none 0 0] 8 rfl (World.shaped_of_RefB (by kernel_rfl) (by kernel_rfl)) (by kernel_rfl) (by kernel_rfl) (by kernel_rfl) (door_met os _)) ?_
  intro W base args ds gs before hval0 hW hcnd hsz0 hL hsh
  have hsz : (DataW.weightsEach Tryz.prog (Tryz.f11.params.toList ++ Rows.scriptWritesSpec.plain.varTypes Tryz.prog) (ds ++ gs)).all (· ≤ reachBytes) = true := hsz0
  have hval : ∀ (j : Nat) t v, Tryz.f11.params[j]? = some t → args[j]? = some v → Value.okWide Tryz.prog W .any base t v := hval0
  have hW' := hW
  obtain ⟨p, q, hA0, hV, rfl, hfz, hnd⟩ := hW
  have hA : DataW.TrodAll enc Tryz.prog W 0 (fun _ => true) true Tryz.f11.params.toList args.toList ds p := hA0
  rw [Tryz.params11] at hA hval hsz
  obtain ⟨v0, vs0, d0, ds0, p0, q0, hargs, rfl, rfl, h0, r0⟩ := trodAll_cons hA
  obtain ⟨rfl, rfl, rfl⟩ := trodAll_nil r0
  obtain rfl : args = #[v0] := by cases args; simp_all
  obtain ⟨rfl, rfl⟩ := trodVars_none hV
  obtain ⟨a0, len0, cap0, rfl⟩ := okWide_slice Tryz.underlying49 (hval 0 49 v0 rfl rfl)
  have k0 := h0
  have lt0 : ∀ x ∈ p0, x.block < W.heap.size := by obtain ⟨m, hm⟩ := k0; exact DataW.trod_lt m _ _ _ hm
  have y0 := sized_any hsz (j := 0) (t := 49) rfl rfl Tryz.underlying49 bytesOp h0
  obtain ⟨z0, l0, h0⟩ : ∃ xs, xs.length = len0 ∧ AtOps W (.slice a0 len0 cap0) xs := by obtain ⟨m, hm⟩ := h0; exact ops_of hm
  have hSW : ScrW W := scrW_of_laid hsh hL
  clear hA0 hval0 hsz0 hsz
  refine (scriptWrites_walk _ z0 W (by rw [l0]; omega) h0 hSW).mono fun e W' ⟨he, bel⟩ => ?_
  subst he
  exact ⟨_, rfl, _, _, _, [], _, [], hW', trodAll_mk1 (shut_bool Tryz.underlying4 _), (trodAll_cons_mk (Below.trod laidOut (by kernel_rfl) (of_decide_eq_true (by kernel_rfl)) k0 bel lt0) trodAll_mk0), rfl, bel.frame _, fun h => by cases h⟩
theorem named : Tryz.prog.funcNamed "hammock/hammocklaw04.ScriptWrites" = some 11 := by kernel_rfl
set_option maxRecDepth 100000 in
set_option maxHeartbeats 40000000 in
theorem facts : joinedFacts Tryz.prog 11 Tryz.f11 Rows.scriptWritesSpec Rows.scriptWritesRow = true := by
  unfold joinedFacts
  rw [fLaidOut, fMapsRowed, fStops, fStopKnobs, fPlainKeys, fStopsHeard, fMay, fLifts, fMake]
  repeat' (with_reducible refine band ?_ ?_)
  all_goals (as_aux_lemma => kernel_rfl)
theorem instance_ : Tryz.f11.isInstance Tryz.prog Rows.scriptWritesRow.origin Rows.scriptWritesRow.targs := of_decide_eq_true (by kernel_rfl)
theorem wrapper_ : Tryz.f11.isWrapper Tryz.prog Rows.scriptWritesRow.wrapper Rows.scriptWritesRow.mainSum := by
  unfold Func.isWrapper; first | (rw [if_pos (by decide +kernel)]; kernel_rfl) | (rw [if_neg (by decide +kernel)]; exact ⟨rfl, rfl⟩)
theorem over : Rows.ScriptWritesSaid :=
  OpenClaim.holds_of_wide 11 Tryz.f11 rfl rfl rfl rfl rfl rfl rfl ⟨rfl, rfl, rfl, rfl, rfl⟩ rfl rfl rfl rfl rfl named Tryz.func11 facts
    instance_ wrapper_ (fun os started H enc _ => lifted os started H enc)
theorem byText : Rows.scriptWritesRow.wfByText (OpenSpec.ofChange Rows.scriptWritesSpec) = true := by kernel_rfl
theorem looks_ : true = Tryz.prog.looks [] := by kernel_rfl
theorem goes_ : false = Rows.scriptWritesRow.goesBy Tryz.prog := by kernel_rfl
theorem params_ : ([49].all fun u => !Tryz.prog.wantsStandIn u) = true := by kernel_rfl
theorem proved : Rows.ScriptWritesCardSaid :=
  Claim7.holds_tied_plain_at .later [] [.data, .data, .data, .data, .handle, .sentinel, .sentinel, .data, .data, .widerDeep, .pinned] true (true, "e0f649cd1df9cc1ad8730738a8d954ff6d6eee0278d1adbcd8f6278b92849110") true
    over (fun _ h => by cases h) byText (fun _ h => by cases h) scriptWrites_row_tie rfl ⟨rfl, rfl⟩ fMain rfl
    (fun f fn hf hfn => by
      obtain rfl : f = 11 := (Option.some.inj (named.symm.trans hf)).symm
      obtain rfl : fn = Tryz.f11 := (Option.some.inj (Tryz.func11.symm.trans hfn)).symm
      exact ⟨looks_, fun j t ht => by
        rw [Tryz.params11] at ht
        have hm : t ∈ [49] := by simpa using Array.mem_of_getElem? ht
        exact (show Tryz.prog.wantsStandIn t = false by simpa using List.all_eq_true.1 params_ t hm)⟩)
    goes_
#print axioms proved
end Go.Proofs.YtdclokpoeaehlaaGreatDoor.scriptWrites
namespace Go.Proofs.YtdclokpoeaehlaaGreatDoor
/-- The card, under a short name. -/
theorem scriptWrites_holds : Rows.ScriptWritesCardSaid := scriptWrites.proved
end Go.Proofs.YtdclokpoeaehlaaGreatDoor
