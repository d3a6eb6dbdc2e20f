/- OpPlain: for every input the law returns true and its arguments read behind the call as before: the row over whatever heap in which the listed variables hold their data, and the tied card. -/
import Derived.Test.YtcegipkhmibdeaaDoorOpPlainW
import Derived.Test.YtcegipkhmibdeaaDoorOpDoor
import Derived.Test.YtcegipkhmibdeaaDoorDoor
import Derived.Test.YtcegipkhmibdeaaDoorSized
import Derived.Test.YtcegipkhmibdeaaDoorFacts
import Derived.Test.YtcegipkhmibdeaaDoorCards
import Derived.Test.YtcegipkhmibdeaaDoorTie
import Derived.WalkKit
import Derived.ProofKit
import Derived.OpenShut
import Derived.ShutString
import Derived.Below
import Derived.SizedLaws
import Derived.SevenTiedAt
import Derived.LaidMore
import Derived.Stop.Joined
namespace Go.Proofs.YtcegipkhmibdeaaDoor.opPlain
set_option linter.all false
open Go.ChangeShapes Go.WideShapes Go.ChangeAt Go.WideMaps Go.WideElems Go.RowKit
open Go.ChangeMaps (open_string shut_string)
open Go.ChangeAt
set_option linter.unusedVariables false
theorem door_met (os : Os) (args : Array Value) : laidMetH Tryd.prog Rows.opPlainRow.laid ((World.doorLaid Tryd.prog 46 os).forCall (fun _ _ => 0) ⟨#[], args, []⟩).memory :=
  laidMetH_of_parts3 (fuel := 8) (laidMet_of_run' 8 (by kernel_rfl) (by kernel_rfl)) (by kernel_rfl) (by kernel_rfl)
set_option maxRecDepth 100000 in
theorem lifted (os : Os) (started : os.Started) (H : Type) (enc : TypeId × Value → H) :
    ReturnsInHanded {} Tryd.checked os 8 .any (fun w args => (Rows.opPlainSpec.pre enc Tryd.prog Tryd.f8 Rows.opPlainRow.domain false w args ∧ laidMetH Tryd.prog Rows.opPlainRow.laid w) ∧ sizedMet enc Tryd.prog Tryd.f8 (OpenSpec.ofChange Rows.opPlainSpec) false w args)
      (Rows.opPlainSpec.post enc Tryd.prog Tryd.f8 false true false false) := by
  refine returnsInHanded_of_change_and (C := Tryd.checked) (X := fun w _ => laidMetH Tryd.prog Rows.opPlainRow.laid w) (fun _ _ _ hh h => h.of_heap hh) own started (by kernel_rfl) Tryd.func8
    (ChangeSpec.witness_shaped (enc := enc) (C := Tryd.checked) (os := os) (X := fun w _ => laidMetH Tryd.prog Rows.opPlainRow.laid w) false (World.doorLaid Tryd.prog 46 os) #[.agg #[.int .i64 0, .int .i64 0, .int .i64 0, .int .i64 0, .bool false, .slice none 0 0], .agg #[.int .i64 0, .int .i64 0, .int .i64 0, .int .i64 0, .bool false, .slice none 0 0], .int .i64 0] 8 rfl (World.shaped_of_RefB (by kernel_rfl) (by kernel_rfl)) (by kernel_rfl) (by kernel_rfl) (by kernel_rfl) (door_met os _)) ?_
  intro W base args ds gs before hval0 hW hcnd hsz0 hL _
  have hsz : (DataW.weightsEach Tryd.prog (Tryd.f8.params.toList ++ Rows.opPlainSpec.plain.varTypes Tryd.prog) (ds ++ gs)).all (· ≤ reachBytes) = true := hsz0
  have hval : ∀ (j : Nat) t v, Tryd.f8.params[j]? = some t → args[j]? = some v → Value.okWide Tryd.prog W .any base t v := hval0
  have hW' := hW
  obtain ⟨p, q, hA0, hV, rfl, hfz, hnd⟩ := hW
  have hA : DataW.TrodAll enc Tryd.prog W 0 (fun _ => true) true Tryd.f8.params.toList args.toList ds p := hA0
  rw [Tryd.params8] at hA hval hsz
  obtain ⟨v0, vs0, d0, ds0, p0, q0, hargs, rfl, rfl, h0, r0⟩ := trodAll_cons hA
  obtain ⟨v1, vs1, d1, ds1, p1, q1, rfl, rfl, rfl, h1, r1⟩ := trodAll_cons r0
  obtain ⟨v2, vs2, d2, ds2, p2, q2, rfl, rfl, rfl, h2, r2⟩ := trodAll_cons r1
  obtain ⟨rfl, rfl, rfl⟩ := trodAll_nil r2
  obtain rfl : args = #[v0, v1, v2] := by cases args; simp_all
  obtain ⟨rfl, rfl⟩ := trodVars_none hV
  have k0 := h0
  have lt0 : ∀ x ∈ p0, x.block < W.heap.size := by obtain ⟨m, hm⟩ := k0; exact DataW.trod_lt m _ _ _ hm
  obtain ⟨k0_, i0_, c0_, n0_, f0_, a0_, l0_, cp0_, z0_, rfl, hl0_, hi0_⟩ := open_op (hval 0 41 v0 rfl rfl) h0
  have k1 := h1
  have lt1 : ∀ x ∈ p1, x.block < W.heap.size := by obtain ⟨m, hm⟩ := k1; exact DataW.trod_lt m _ _ _ hm
  obtain ⟨k1_, i1_, c1_, n1_, f1_, a1_, l1_, cp1_, z1_, rfl, hl1_, hi1_⟩ := open_op (hval 1 41 v1 rfl rfl) h1
  obtain ⟨a2, rfl, rfl, rfl, w2⟩ := open_int Tryd.underlying3 (hval 2 3 v2 rfl rfl) h2
  have hE : ErrType W := by
    have h0 : laidMet Tryd.prog [] W ∧ handlesMet Tryd.prog Rows.opPlainRow.laid W := hL
    exact errType_of_handles h0.2 (List.mem_singleton.2 rfl)
  clear hA0 hval0 hsz0 hsz
  refine (opPlain_walk k0_ i0_ c0_ n0_ f0_ a0_ l0_ cp0_ z0_ k1_ i1_ c1_ n1_ f1_ a1_ l1_ cp1_ z1_ a2 W hE hi0_ hi1_ hl0_ hl1_).mono fun e W' ⟨he, bel⟩ => ?_
  subst he
  exact ⟨_, rfl, _, _, _, [], _, [], hW', trodAll_mk1 (shut_bool Tryd.underlying4 _), (trodAll_cons_mk (Below.trod laidOut (by kernel_rfl) (of_decide_eq_true (by kernel_rfl)) k0 bel lt0) (trodAll_cons_mk (Below.trod laidOut (by kernel_rfl) (of_decide_eq_true (by kernel_rfl)) k1 bel lt1) (trodAll_cons_mk (shut_int Tryd.underlying3 w2) trodAll_mk0))), rfl, bel.frame _, fun h => by cases h⟩
theorem named : Tryd.prog.funcNamed "hammock/hammocklaw03.OpPlain" = some 8 := by kernel_rfl
set_option maxRecDepth 100000 in
set_option maxHeartbeats 40000000 in
theorem facts : joinedFacts Tryd.prog 8 Tryd.f8 Rows.opPlainSpec Rows.opPlainRow = true := by
  unfold joinedFacts
  rw [fLaidOut, fMapsRowed, fStops, fStopKnobs, fPlainKeys, fStopsHeard, fMay, fLifts, fMake]
  repeat' (with_reducible refine band ?_ ?_)
  all_goals (as_aux_lemma => kernel_rfl)
theorem instance_ : Tryd.f8.isInstance Tryd.prog Rows.opPlainRow.origin Rows.opPlainRow.targs := of_decide_eq_true (by kernel_rfl)
theorem wrapper_ : Tryd.f8.isWrapper Tryd.prog Rows.opPlainRow.wrapper Rows.opPlainRow.mainSum := by
  unfold Func.isWrapper; first | (rw [if_pos (by decide +kernel)]; kernel_rfl) | (rw [if_neg (by decide +kernel)]; exact ⟨rfl, rfl⟩)
theorem over : Rows.OpPlainSaid :=
  OpenClaim.holds_of_wide 8 Tryd.f8 rfl rfl rfl rfl rfl rfl rfl ⟨rfl, rfl, rfl, rfl, rfl⟩ rfl rfl rfl rfl rfl named Tryd.func8 facts
    instance_ wrapper_ (fun os started H enc _ => lifted os started H enc)
theorem byText : Rows.opPlainRow.wfByText (OpenSpec.ofChange Rows.opPlainSpec) = true := by kernel_rfl
theorem looks_ : true = Tryd.prog.looks [] := by kernel_rfl
theorem goes_ : false = Rows.opPlainRow.goesBy Tryd.prog := by kernel_rfl
theorem params_ : ([41, 41, 3].all fun u => !Tryd.prog.wantsStandIn u) = true := by kernel_rfl
theorem proved : Rows.OpPlainCardSaid :=
  Claim7.holds_tied_plain_at .later [] [.handle] true (true, "25fb52c7a62141da201c992de07690019f706bfb1a8ff032f6eb55d89aef45fd") true
    over (fun _ h => by cases h) byText (fun _ h => by cases h) opPlain_row_tie rfl ⟨rfl, rfl⟩ fMain rfl
    (fun f fn hf hfn => by
      obtain rfl : f = 8 := (Option.some.inj (named.symm.trans hf)).symm
      obtain rfl : fn = Tryd.f8 := (Option.some.inj (Tryd.func8.symm.trans hfn)).symm
      exact ⟨looks_, fun j t ht => by
        rw [Tryd.params8] at ht
        have hm : t ∈ [41, 41, 3] := by simpa using Array.mem_of_getElem? ht
        exact (show Tryd.prog.wantsStandIn t = false by simpa using List.all_eq_true.1 params_ t hm)⟩)
    goes_
#print axioms proved
end Go.Proofs.YtcegipkhmibdeaaDoor.opPlain
namespace Go.Proofs.YtcegipkhmibdeaaDoor
/-- The card, under a short name. -/
theorem opPlain_holds : Rows.OpPlainCardSaid := opPlain.proved
end Go.Proofs.YtcegipkhmibdeaaDoor
