/- PodPhases: for every input the law returns true and its arguments read behind the call as before: the walk, the row over whatever heap in which the listed variables hold their data, and the tied card. -/
import Derived.Test.YtcegipkhmibdeaaDoorPods4
import Derived.Test.YtcegipkhmibdeaaDoorPods1
import Derived.Test.YtcegipkhmibdeaaDoorFacts
import Derived.Test.YtcegipkhmibdeaaDoorCards
import Derived.Test.YtcegipkhmibdeaaDoorTie
import Derived.WalkKit
import Derived.ProofKit
import Derived.OpenShut
import Derived.ShutString
import Derived.Below
import Derived.SizedLaws
import Derived.SevenTiedAt
import Derived.LaidMore
import Derived.Stop.Joined
/- PodPhases: for every input the law returns true and its arguments read behind the call as before: the row over whatever heap in which the listed variables hold their data, and the tied card. -/
namespace Go.Proofs.YtcegipkhmibdeaaDoor.podPhases
set_option linter.all false
open Go.ChangeShapes Go.WideShapes Go.ChangeAt Go.WideMaps Go.WideElems Go.RowKit
open Go.ChangeMaps (open_string shut_string)
open Go.ChangeAt
set_option linter.unusedVariables false
theorem door_met (os : Os) (args : Array Value) : laidMetH Tryd.prog Rows.podPhasesRow.laid ((World.doorLaid Tryd.prog 46 os).forCall (fun _ _ => 0) ⟨#[], args, []⟩).memory :=
  laidMetH_of_parts3 (fuel := 8) (laidMet_of_run' 8 (by kernel_rfl) (by kernel_rfl)) (by kernel_rfl) (by kernel_rfl)
set_option maxRecDepth 100000 in
theorem lifted (os : Os) (started : os.Started) (H : Type) (enc : TypeId × Value → H) :
    ReturnsInHanded {} Tryd.checked os 15 .any (fun w args => (Rows.podPhasesSpec.pre enc Tryd.prog Tryd.f15 Rows.podPhasesRow.domain false w args ∧ laidMetH Tryd.prog Rows.podPhasesRow.laid w) ∧ sizedMet enc Tryd.prog Tryd.f15 (OpenSpec.ofChange Rows.podPhasesSpec) false w args)
      (Rows.podPhasesSpec.post enc Tryd.prog Tryd.f15 false true false false) := by
  refine returnsInHanded_of_change_and (C := Tryd.checked) (X := fun w _ => laidMetH Tryd.prog Rows.podPhasesRow.laid w) (fun _ _ _ hh h => h.of_heap hh) own started (by kernel_rfl) Tryd.func15
    (ChangeSpec.witness_shaped (enc := enc) (C := Tryd.checked) (os := os) (X := fun w _ => laidMetH Tryd.prog Rows.podPhasesRow.laid w) false (World.doorLaid Tryd.prog 46 os) #[.slice none 0 0] 8 rfl (World.shaped_of_RefB (by kernel_rfl) (by kernel_rfl)) (by kernel_rfl) (by kernel_rfl) (by kernel_rfl) (door_met os _)) ?_
  intro W base args ds gs before hval0 hW hcnd hsz0 hL _
  have hsz : (DataW.weightsEach Tryd.prog (Tryd.f15.params.toList ++ Rows.podPhasesSpec.plain.varTypes Tryd.prog) (ds ++ gs)).all (· ≤ reachBytes) = true := hsz0
  have hval : ∀ (j : Nat) t v, Tryd.f15.params[j]? = some t → args[j]? = some v → Value.okWide Tryd.prog W .any base t v := hval0
  have hW' := hW
  obtain ⟨p, q, hA0, hV, rfl, hfz, hnd⟩ := hW
  have hA : DataW.TrodAll enc Tryd.prog W 0 (fun _ => true) true Tryd.f15.params.toList args.toList ds p := hA0
  rw [Tryd.params15] at hA hval hsz
  obtain ⟨v0, vs0, d0, ds0, p0, q0, hargs, rfl, rfl, h0, r0⟩ := trodAll_cons hA
  obtain ⟨rfl, rfl, rfl⟩ := trodAll_nil r0
  obtain rfl : args = #[v0] := by cases args; simp_all
  obtain ⟨rfl, rfl⟩ := trodVars_none hV
  obtain ⟨a0, len0, cap0, rfl⟩ := okWide_slice Tryd.underlying59 (hval 0 59 v0 rfl rfl)
  have k0 := h0
  have lt0 : ∀ x ∈ p0, x.block < W.heap.size := by obtain ⟨m, hm⟩ := k0; exact DataW.trod_lt m _ _ _ hm
  have y0 := sized_any hsz (j := 0) (t := 59) rfl rfl Tryd.underlying59 bytesOp13 h0
  obtain ⟨z0, l0, h0⟩ : ∃ xs, xs.length = len0 ∧ OpsAt W (.slice a0 len0 cap0) xs := by obtain ⟨m, hm⟩ := h0; exact ops13_of hm
  have hE : ErrType W := by
    have h0 : laidMet Tryd.prog [] W ∧ handlesMet Tryd.prog Rows.opPlainRow.laid W := hL
    exact errType_of_handles h0.2 (List.mem_singleton.2 rfl)
  clear hA0 hval0 hsz0 hsz
  refine (podPhases_walk _ z0 W hE (by rw [l0]; omega) h0).mono fun e W' ⟨he, bel⟩ => ?_
  subst he
  exact ⟨_, rfl, _, _, _, [], _, [], hW', trodAll_mk1 (shut_bool Tryd.underlying4 _), (trodAll_cons_mk (Below.trod laidOut (by kernel_rfl) (of_decide_eq_true (by kernel_rfl)) k0 bel lt0) trodAll_mk0), rfl, bel.frame _, fun h => by cases h⟩
theorem named : Tryd.prog.funcNamed "hammock/hammocklaw13.PodPhases" = some 15 := by kernel_rfl
set_option maxRecDepth 100000 in
set_option maxHeartbeats 40000000 in
theorem facts : joinedFacts Tryd.prog 15 Tryd.f15 Rows.podPhasesSpec Rows.podPhasesRow = true := by
  unfold joinedFacts
  rw [fLaidOut, fMapsRowed, fStops, fStopKnobs, fPlainKeys, fStopsHeard, fMay, fLifts, fMake]
  repeat' (with_reducible refine band ?_ ?_)
  all_goals (as_aux_lemma => kernel_rfl)
theorem instance_ : Tryd.f15.isInstance Tryd.prog Rows.podPhasesRow.origin Rows.podPhasesRow.targs := of_decide_eq_true (by kernel_rfl)
theorem wrapper_ : Tryd.f15.isWrapper Tryd.prog Rows.podPhasesRow.wrapper Rows.podPhasesRow.mainSum := by
  unfold Func.isWrapper; first | (rw [if_pos (by decide +kernel)]; kernel_rfl) | (rw [if_neg (by decide +kernel)]; exact ⟨rfl, rfl⟩)
theorem over : Rows.PodPhasesSaid :=
  OpenClaim.holds_of_wide 15 Tryd.f15 rfl rfl rfl rfl rfl rfl rfl ⟨rfl, rfl, rfl, rfl, rfl⟩ rfl rfl rfl rfl rfl named Tryd.func15 facts
    instance_ wrapper_ (fun os started H enc _ => lifted os started H enc)
theorem byText : Rows.podPhasesRow.wfByText (OpenSpec.ofChange Rows.podPhasesSpec) = true := by kernel_rfl
theorem looks_ : true = Tryd.prog.looks [] := by kernel_rfl
theorem goes_ : false = Rows.podPhasesRow.goesBy Tryd.prog := by kernel_rfl
theorem params_ : ([59].all fun u => !Tryd.prog.wantsStandIn u) = true := by kernel_rfl
theorem proved : Rows.PodPhasesCardSaid :=
  Claim7.holds_tied_plain_at .later [] [.handle] true (true, "25fb52c7a62141da201c992de07690019f706bfb1a8ff032f6eb55d89aef45fd") true
    over (fun _ h => by cases h) byText (fun _ h => by cases h) podPhases_row_tie rfl ⟨rfl, rfl⟩ fMain rfl
    (fun f fn hf hfn => by
      obtain rfl : f = 15 := (Option.some.inj (named.symm.trans hf)).symm
      obtain rfl : fn = Tryd.f15 := (Option.some.inj (Tryd.func15.symm.trans hfn)).symm
      exact ⟨looks_, fun j t ht => by
        rw [Tryd.params15] at ht
        have hm : t ∈ [59] := by simpa using Array.mem_of_getElem? ht
        exact (show Tryd.prog.wantsStandIn t = false by simpa using List.all_eq_true.1 params_ t hm)⟩)
    goes_
#print axioms proved
end Go.Proofs.YtcegipkhmibdeaaDoor.podPhases
namespace Go.Proofs.YtcegipkhmibdeaaDoor
/-- The card, under a short name. -/
theorem podPhases_holds : Rows.PodPhasesCardSaid := podPhases.proved
end Go.Proofs.YtcegipkhmibdeaaDoor
