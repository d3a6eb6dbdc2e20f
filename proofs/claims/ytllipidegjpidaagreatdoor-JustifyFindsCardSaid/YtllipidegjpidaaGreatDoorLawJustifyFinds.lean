/- JustifyFinds: for every input the law returns true and its arguments read behind the call as before: the row over whatever heap in which the listed variables hold their data, and the tied card. -/
import Derived.Test.YtllipidegjpidaaGreatDoorJDoor
import Derived.Test.YtllipidegjpidaaGreatDoorDoor
import Derived.Test.YtllipidegjpidaaGreatDoorSized
import Derived.Test.YtllipidegjpidaaGreatDoorFacts
import Derived.Test.YtllipidegjpidaaGreatDoorCards
import Derived.Test.YtllipidegjpidaaGreatDoorTie
import Derived.WalkKit
import Derived.ProofKit
import Derived.OpenShut
import Derived.ShutString
import Derived.Below
import Derived.SizedLaws
import Derived.SevenTiedAt
import Derived.LaidMore
import Derived.Stop.Joined
namespace Go.Proofs.YtllipidegjpidaaGreatDoor.justifyFinds
set_option linter.all false
open Go.ChangeShapes Go.WideShapes Go.ChangeAt Go.WideMaps Go.WideElems Go.RowKit
open Go.ChangeMaps (open_string shut_string)
open Go.ChangeAt
set_option linter.unusedVariables false
theorem door_met (os : Os) (args : Array Value) : laidMetH Tryz.prog Rows.justifyFindsRow.laid ((World.doorLaid Tryz.prog 26 os).forCall (fun _ _ => 0) ⟨#[], args, []⟩).memory :=
  laidMetH_of_parts3 (fuel := 8) (laidMet_of_run' 8 (by kernel_rfl) (by kernel_rfl)) (by kernel_rfl) (by kernel_rfl)
set_option maxRecDepth 100000 in
theorem lifted (os : Os) (started : os.Started) (H : Type) (enc : TypeId × Value → H) :
    ReturnsInHanded {} Tryz.checked os 3 .any (fun w args => (Rows.justifyFindsSpec.pre enc Tryz.prog Tryz.f3 Rows.justifyFindsRow.domain false w args ∧ laidMetH Tryz.prog Rows.justifyFindsRow.laid w) ∧ sizedMet enc Tryz.prog Tryz.f3 (OpenSpec.ofChange Rows.justifyFindsSpec) false w args)
      (Rows.justifyFindsSpec.post enc Tryz.prog Tryz.f3 false true false false) := by
  refine returnsInHanded_of_change_and (C := Tryz.checked) (X := fun w _ => laidMetH Tryz.prog Rows.justifyFindsRow.laid w) (fun _ _ _ hh h => h.of_heap hh) own started (by kernel_rfl) Tryz.func3
    (ChangeSpec.witness_shaped (enc := enc) (C := Tryz.checked) (os := os) (X := fun w _ => laidMetH Tryz.prog Rows.justifyFindsRow.laid w) false (World.doorLaid Tryz.prog 26 os) #[.slice none 0 0, .int .i64 0, .int .i64 0] 8 rfl (World.shaped_of_RefB (by kernel_rfl) (by kernel_rfl)) (by kernel_rfl) (by kernel_rfl) (by kernel_rfl) (door_met os _)) ?_
  intro W base args ds gs before hval0 hW hcnd hsz0 hL _
  have hsz : (DataW.weightsEach Tryz.prog (Tryz.f3.params.toList ++ Rows.justifyFindsSpec.plain.varTypes Tryz.prog) (ds ++ gs)).all (· ≤ reachBytes) = true := hsz0
  have hval : ∀ (j : Nat) t v, Tryz.f3.params[j]? = some t → args[j]? = some v → Value.okWide Tryz.prog W .any base t v := hval0
  have hW' := hW
  obtain ⟨p, q, hA0, hV, rfl, hfz, hnd⟩ := hW
  have hA : DataW.TrodAll enc Tryz.prog W 0 (fun _ => true) true Tryz.f3.params.toList args.toList ds p := hA0
  rw [Tryz.params3] at hA hval hsz
  obtain ⟨v0, vs0, d0, ds0, p0, q0, hargs, rfl, rfl, h0, r0⟩ := trodAll_cons hA
  obtain ⟨v1, vs1, d1, ds1, p1, q1, rfl, rfl, rfl, h1, r1⟩ := trodAll_cons r0
  obtain ⟨v2, vs2, d2, ds2, p2, q2, rfl, rfl, rfl, h2, r2⟩ := trodAll_cons r1
  obtain ⟨rfl, rfl, rfl⟩ := trodAll_nil r2
  obtain rfl : args = #[v0, v1, v2] := by cases args; simp_all
  obtain ⟨rfl, rfl⟩ := trodVars_none hV
  obtain ⟨a0, len0, cap0, rfl⟩ := okWide_slice Tryz.underlying22 (hval 0 22 v0 rfl rfl)
  have k0 := h0
  have lt0 : ∀ x ∈ p0, x.block < W.heap.size := by obtain ⟨m, hm⟩ := k0; exact DataW.trod_lt m _ _ _ hm
  obtain ⟨z0, l0, h0⟩ : ∃ xs, xs.length = len0 ∧ kDec.At W (.slice a0 len0 cap0) xs := by obtain ⟨m, hm⟩ := h0; exact decs_of hm
  obtain ⟨a1, rfl, rfl, rfl, w1⟩ := open_int Tryz.underlying3 (hval 1 3 v1 rfl rfl) h1
  obtain ⟨a2, rfl, rfl, rfl, w2⟩ := open_int Tryz.underlying3 (hval 2 3 v2 rfl rfl) h2
  have hLW := names_of_laid hL
  clear hA0 hval0 hsz0 hsz
  refine (justifyFinds_walk a0 len0 cap0 z0 a1 a2 W l0 h0 hLW).mono fun e W' ⟨he, bel⟩ => ?_
  subst he
  exact ⟨_, rfl, _, _, _, [], _, [], hW', trodAll_mk1 (shut_bool Tryz.underlying4 _), (trodAll_cons_mk (Below.trod laidOut (by kernel_rfl) (of_decide_eq_true (by kernel_rfl)) k0 bel lt0) (trodAll_cons_mk (shut_int Tryz.underlying3 w1) (trodAll_cons_mk (shut_int Tryz.underlying3 w2) trodAll_mk0))), rfl, bel.frame _, fun h => by cases h⟩
theorem named : Tryz.prog.funcNamed "hammock/hammocklaw27.JustifyFinds" = some 3 := by kernel_rfl
set_option maxRecDepth 100000 in
set_option maxHeartbeats 40000000 in
theorem facts : joinedFacts Tryz.prog 3 Tryz.f3 Rows.justifyFindsSpec Rows.justifyFindsRow = true := by
  unfold joinedFacts
  rw [fLaidOut, fMapsRowed, fStops, fStopKnobs, fPlainKeys, fStopsHeard, fMay, fLifts, fMake]
  repeat' (with_reducible refine band ?_ ?_)
  all_goals (as_aux_lemma => kernel_rfl)
theorem instance_ : Tryz.f3.isInstance Tryz.prog Rows.justifyFindsRow.origin Rows.justifyFindsRow.targs := of_decide_eq_true (by kernel_rfl)
theorem wrapper_ : Tryz.f3.isWrapper Tryz.prog Rows.justifyFindsRow.wrapper Rows.justifyFindsRow.mainSum := by
  unfold Func.isWrapper; first | (rw [if_pos (by decide +kernel)]; kernel_rfl) | (rw [if_neg (by decide +kernel)]; exact ⟨rfl, rfl⟩)
theorem over : Rows.JustifyFindsSaid :=
  OpenClaim.holds_of_wide 3 Tryz.f3 rfl rfl rfl rfl rfl rfl rfl ⟨rfl, rfl, rfl, rfl, rfl⟩ rfl rfl rfl rfl rfl named Tryz.func3 facts
    instance_ wrapper_ (fun os started H enc _ => lifted os started H enc)
theorem byText : Rows.justifyFindsRow.wfByText (OpenSpec.ofChange Rows.justifyFindsSpec) = true := by kernel_rfl
theorem looks_ : true = Tryz.prog.looks [] := by kernel_rfl
theorem goes_ : false = Rows.justifyFindsRow.goesBy Tryz.prog := by kernel_rfl
theorem params_ : ([22, 3, 3].all fun u => !Tryz.prog.wantsStandIn u) = true := by kernel_rfl
theorem proved : Rows.JustifyFindsCardSaid :=
  Claim7.holds_tied_plain_at .later [] [.handle, .data, .data] true (true, "5de4b364cac5c2f92a96330f2200a3d3b05f47ba23dbaa3b5098531cab41cb4f") true
    over (fun _ h => by cases h) byText (fun _ h => by cases h) justifyFinds_row_tie rfl ⟨rfl, rfl⟩ fMain rfl
    (fun f fn hf hfn => by
      obtain rfl : f = 3 := (Option.some.inj (named.symm.trans hf)).symm
      obtain rfl : fn = Tryz.f3 := (Option.some.inj (Tryz.func3.symm.trans hfn)).symm
      exact ⟨looks_, fun j t ht => by
        rw [Tryz.params3] at ht
        have hm : t ∈ [22, 3, 3] := by simpa using Array.mem_of_getElem? ht
        exact (show Tryz.prog.wantsStandIn t = false by simpa using List.all_eq_true.1 params_ t hm)⟩)
    goes_
#print axioms proved
end Go.Proofs.YtllipidegjpidaaGreatDoor.justifyFinds
namespace Go.Proofs.YtllipidegjpidaaGreatDoor
/-- The card, under a short name. -/
theorem justifyFinds_holds : Rows.JustifyFindsCardSaid := justifyFinds.proved
end Go.Proofs.YtllipidegjpidaaGreatDoor
