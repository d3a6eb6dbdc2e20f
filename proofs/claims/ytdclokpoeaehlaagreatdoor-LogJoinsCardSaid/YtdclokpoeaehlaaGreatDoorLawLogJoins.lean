/- LogJoins: for every input the law returns true and its arguments read behind the call as before: the row over whatever heap in which the listed variables hold their data, and the tied card. -/
import Derived.Test.YtdclokpoeaehlaaGreatDoorLogV
import Derived.Test.YtdclokpoeaehlaaGreatDoorDoor
import Derived.Test.YtdclokpoeaehlaaGreatDoorLogDoor
import Derived.Test.YtdclokpoeaehlaaGreatDoorFacts
import Derived.Test.YtdclokpoeaehlaaGreatDoorCards
import Derived.Test.YtdclokpoeaehlaaGreatDoorTie
import Derived.WalkKit
import Derived.ProofKit
import Derived.OpenShut
import Derived.ShutString
import Derived.Below
import Derived.SizedLaws
import Derived.SevenTiedAt
import Derived.LaidMore
import Derived.Stop.Joined
namespace Go.Proofs.YtdclokpoeaehlaaGreatDoor.logJoins
set_option linter.all false
open Go.ChangeShapes Go.WideShapes Go.ChangeAt Go.WideMaps Go.WideElems Go.RowKit
open Go.ChangeMaps (open_string shut_string)
open Go.ChangeAt
set_option linter.unusedVariables false
theorem door_met (os : Os) (args : Array Value) : laidMetH Tryz.prog Rows.logJoinsRow.laid ((doorW os).forCall (fun _ _ => 0) ⟨#[], args, []⟩).memory :=
  laidMetH_of_parts3 (fuel := 8) (laidMet_bits 8 300 (by kernel_rfl) (by kernel_rfl)) (by kernel_rfl) (by kernel_rfl)
set_option maxRecDepth 100000 in
theorem lifted (os : Os) (started : os.Started) (H : Type) (enc : TypeId × Value → H) :
    ReturnsInHanded {} Tryz.checked os 7 .any (fun w args => (Rows.logJoinsSpec.pre enc Tryz.prog Tryz.f7 Rows.logJoinsRow.domain false w args ∧ laidMetH Tryz.prog Rows.logJoinsRow.laid w) ∧ sizedMet enc Tryz.prog Tryz.f7 (OpenSpec.ofChange Rows.logJoinsSpec) false w args)
      (Rows.logJoinsSpec.post enc Tryz.prog Tryz.f7 false true false false) := by
  refine handed_and_shaped (C := Tryz.checked) (X := fun w _ => laidMetH Tryz.prog Rows.logJoinsRow.laid w) (fun _ _ _ hh h => h.of_heap hh) own started (by kernel_rfl) Tryz.func7
    (ChangeSpec.witness_shaped (enc := enc) (C := Tryz.checked) (os := os) (X := fun w _ => laidMetH Tryz.prog Rows.logJoinsRow.laid w) false (doorW os) #[.slice none 0 0, .slice none 0 0] 8 rfl (World.shaped_of_RefB (by kernel_rfl) (by kernel_rfl)) (by kernel_rfl) (by kernel_rfl) (by kernel_rfl) (door_met os _)) ?_
  intro W base args ds gs before hval0 hW hcnd hsz0 hL hsh
  have hsz : (DataW.weightsEach Tryz.prog (Tryz.f7.params.toList ++ Rows.logJoinsSpec.plain.varTypes Tryz.prog) (ds ++ gs)).all (· ≤ reachBytes) = true := hsz0
  have hval : ∀ (j : Nat) t v, Tryz.f7.params[j]? = some t → args[j]? = some v → Value.okWide Tryz.prog W .any base t v := hval0
  have hW' := hW
  obtain ⟨p, q, hA0, hV, rfl, hfz, hnd⟩ := hW
  have hA : DataW.TrodAll enc Tryz.prog W 0 (fun _ => true) true Tryz.f7.params.toList args.toList ds p := hA0
  rw [Tryz.params7] at hA hval hsz
  obtain ⟨v0, vs0, d0, ds0, p0, q0, hargs, rfl, rfl, h0, r0⟩ := trodAll_cons hA
  obtain ⟨v1, vs1, d1, ds1, p1, q1, rfl, rfl, rfl, h1, r1⟩ := trodAll_cons r0
  obtain ⟨rfl, rfl, rfl⟩ := trodAll_nil r1
  obtain rfl : args = #[v0, v1] := by cases args; simp_all
  obtain ⟨rfl, rfl⟩ := trodVars_none hV
  obtain ⟨a0, len0, cap0, rfl⟩ := okWide_slice Tryz.underlying32 (hval 0 32 v0 rfl rfl)
  have k0 := h0
  have lt0 : ∀ x ∈ p0, x.block < W.heap.size := by obtain ⟨m, hm⟩ := k0; exact DataW.trod_lt m _ _ _ hm
  have y0 := sized_any hsz (j := 0) (t := 32) rfl rfl Tryz.underlying32 bytesDec h0
  obtain ⟨z0, l0, h0⟩ : ∃ xs, xs.length = len0 ∧ kDec.At W (.slice a0 len0 cap0) xs := by obtain ⟨m, hm⟩ := h0; exact decs_of hm
  obtain ⟨a1, len1, cap1, rfl⟩ := okWide_slice Tryz.underlying32 (hval 1 32 v1 rfl rfl)
  have k1 := h1
  have lt1 : ∀ x ∈ p1, x.block < W.heap.size := by obtain ⟨m, hm⟩ := k1; exact DataW.trod_lt m _ _ _ hm
  have y1 := sized_any hsz (j := 1) (t := 32) rfl rfl Tryz.underlying32 bytesDec h1
  obtain ⟨z1, l1, h1⟩ : ∃ xs, xs.length = len1 ∧ kDec.At W (.slice a1 len1 cap1) xs := by obtain ⟨m, hm⟩ := h1; exact decs_of hm
  have hLW : LogW W := logW_of_laid hsh hL
  clear hA0 hval0 hsz0 hsz
  refine (logJoins_walk _ _ z0 z1 W (by rw [l0]; omega) (by rw [l1]; omega) h0 h1 hLW).mono fun e W' ⟨he, bel⟩ => ?_
  subst he
  exact ⟨_, rfl, _, _, _, [], _, [], hW', trodAll_mk1 (shut_bool Tryz.underlying4 _), (trodAll_cons_mk (Below.trod laidOut (by kernel_rfl) (of_decide_eq_true (by kernel_rfl)) k0 bel lt0) (trodAll_cons_mk (Below.trod laidOut (by kernel_rfl) (of_decide_eq_true (by kernel_rfl)) k1 bel lt1) trodAll_mk0)), rfl, bel.frame _, fun h => by cases h⟩
theorem named : Tryz.prog.funcNamed "hammock/hammocklaw24.LogJoins" = some 7 := by kernel_rfl
set_option maxRecDepth 100000 in
set_option maxHeartbeats 40000000 in
theorem facts : joinedFacts Tryz.prog 7 Tryz.f7 Rows.logJoinsSpec Rows.logJoinsRow = true := by
  unfold joinedFacts
  rw [fLaidOut, fMapsRowed, fStops, fStopKnobs, fPlainKeys, fStopsHeard, fMay, fLifts, fMake]
  repeat' (with_reducible refine band ?_ ?_)
  all_goals (as_aux_lemma => kernel_rfl)
theorem instance_ : Tryz.f7.isInstance Tryz.prog Rows.logJoinsRow.origin Rows.logJoinsRow.targs := of_decide_eq_true (by kernel_rfl)
theorem wrapper_ : Tryz.f7.isWrapper Tryz.prog Rows.logJoinsRow.wrapper Rows.logJoinsRow.mainSum := by
  unfold Func.isWrapper; first | (rw [if_pos (by decide +kernel)]; kernel_rfl) | (rw [if_neg (by decide +kernel)]; exact ⟨rfl, rfl⟩)
theorem over : Rows.LogJoinsSaid :=
  OpenClaim.holds_of_wide 7 Tryz.f7 rfl rfl rfl rfl rfl rfl rfl ⟨rfl, rfl, rfl, rfl, rfl⟩ rfl rfl rfl rfl rfl named Tryz.func7 facts
    instance_ wrapper_ (fun os started H enc _ => lifted os started H enc)
theorem byText : Rows.logJoinsRow.wfByText (OpenSpec.ofChange Rows.logJoinsSpec) = true := by kernel_rfl
theorem looks_ : true = Tryz.prog.looks [] := by kernel_rfl
theorem goes_ : false = Rows.logJoinsRow.goesBy Tryz.prog := by kernel_rfl
theorem params_ : ([32, 32].all fun u => !Tryz.prog.wantsStandIn u) = true := by kernel_rfl
theorem proved : Rows.LogJoinsCardSaid :=
  Claim7.holds_tied_plain_at .later [] [.data, .data, .data, .data, .handle, .sentinel, .sentinel, .data, .widerDeep, .pinned] true (true, "e0f649cd1df9cc1ad8730738a8d954ff6d6eee0278d1adbcd8f6278b92849110") true
    over (fun _ h => by cases h) byText (fun _ h => by cases h) logJoins_row_tie rfl ⟨rfl, rfl⟩ fMain rfl
    (fun f fn hf hfn => by
      obtain rfl : f = 7 := (Option.some.inj (named.symm.trans hf)).symm
      obtain rfl : fn = Tryz.f7 := (Option.some.inj (Tryz.func7.symm.trans hfn)).symm
      exact ⟨looks_, fun j t ht => by
        rw [Tryz.params7] at ht
        have hm : t ∈ [32, 32] := by simpa using Array.mem_of_getElem? ht
        exact (show Tryz.prog.wantsStandIn t = false by simpa using List.all_eq_true.1 params_ t hm)⟩)
    goes_
#print axioms proved
end Go.Proofs.YtdclokpoeaehlaaGreatDoor.logJoins
namespace Go.Proofs.YtdclokpoeaehlaaGreatDoor
/-- The card, under a short name. -/
theorem logJoins_holds : Rows.LogJoinsCardSaid := logJoins.proved
end Go.Proofs.YtdclokpoeaehlaaGreatDoor
