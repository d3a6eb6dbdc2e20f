/- fault.Code, fault.At, fault.Place. -/
import Derived.Test.YtcegipkhmibdeaaDoorErrorsAs
namespace Go.Proofs.YtcegipkhmibdeaaDoor
set_option linter.all false
open Go.RowKit

set_option maxRecDepth 100000 in
theorem errorsAs_nil (tv : Value) (w : World) : Calls Tryd.prog 88 #[.nilIface, tv] w fun r w' => r = .returned (.bool false) ∧ w = w' := by
  go_enter Tryd.func88, Tryd.ntmps88
  go_wp2
  go_ret
  exact ⟨rfl, rfl⟩
set_option maxRecDepth 100000 in
theorem faultCode_any (e : Option EV) (w : World) (hE : ErrType w) : Calls Tryd.prog 75 #[errV e] w fun r w' => r = .returned (.tuple #[.int .i64 ((e.bind EV.asC).getD 0), .bool (e.bind EV.asC).isSome]) ∧ Below w.heap.size w w' := by
  have hE' := hE.below ((Below.refl _ w).alloc (Nat.le_refl _) (.cells #[.int .i64 0] 94))
  cases e with
  | none =>
    have HN := Lib.hid errorsAs_nil
    change Calls _ _ #[.nilIface] _ _
    go_enter Tryd.func75, Tryd.ntmps75
    go_wp2_with fail
    refine (HN.out _ _).mono ?_
    rintro r w1 ⟨rfl, rfl⟩
    go_wp2
    go_ret2
    exact ⟨rfl, (Below.refl _ w).alloc (Nat.le_refl _) _⟩
  | some e =>
    change Calls _ _ #[e.val] _ _
    have HA := Lib.hid (errorsAsC_any e w.heap.size (.int .i64 0) (w.alloc (.cells #[.int .i64 0] 94)) hE' (by go_simp) (by go_simp))
    have hval : ((e.asC).getD 0 : Int) = (((some e).bind EV.asC).getD 0) := rfl
    rw [← hval]
    clear hval
    change Calls _ _ _ _ fun r w' => r = .returned (.tuple #[_, .bool e.asC.isSome]) ∧ _
    generalize e.asC = o at *
    generalize e.val = ev at *
    cases o with
    | none =>
      go_enter Tryd.func75, Tryd.ntmps75
      go_wp2_with fail
      refine HA.out.mono ?_
      rintro r w1 ⟨rfl, hb, hc⟩
      simp only at hc
      go_wp2
      go_ret2
      exact ⟨rfl, ((Below.refl _ w).alloc (Nat.le_refl _) _).trans hb⟩
    | some o =>
      go_enter Tryd.func75, Tryd.ntmps75
      go_wp2_with fail
      refine HA.out.mono ?_
      rintro r w1 ⟨rfl, hb, hc⟩
      simp only at hc
      go_wp2
      go_ret2
      exact ⟨rfl, ((Below.refl _ w).alloc (Nat.le_refl _) _).trans hb⟩
set_option maxRecDepth 100000 in
theorem faultAt_any (e : Option EV) (w : World) (hE : ErrType w) : Calls Tryd.prog 76 #[errV e] w fun r w' => r = .returned (.tuple #[.int .i64 (((e.bind EV.asF).map Prod.snd).getD 0), .bool (e.bind EV.asF).isSome]) ∧ Below w.heap.size w w' := by
  have hE' := hE.below ((Below.refl _ w).alloc (Nat.le_refl _) (.cells #[.int .i64 0, .int .i64 0] 106))
  cases e with
  | none =>
    have HN := Lib.hid errorsAs_nil
    change Calls _ _ #[.nilIface] _ _
    go_enter Tryd.func76, Tryd.ntmps76
    go_wp2_with fail
    refine (HN.out _ _).mono ?_
    rintro r w1 ⟨rfl, rfl⟩
    go_wp2
    go_ret2
    exact ⟨rfl, (Below.refl _ w).alloc (Nat.le_refl _) _⟩
  | some e =>
    change Calls _ _ #[e.val] _ _
    have HA := Lib.hid (errorsAsF_any e w.heap.size (.int .i64 0) (.int .i64 0) (w.alloc (.cells #[.int .i64 0, .int .i64 0] 106)) hE' (by go_simp) (by go_simp) (by go_simp) (by go_simp))
    have hval : (((e.asF).map Prod.snd).getD 0 : Int) = ((((some e).bind EV.asF).map Prod.snd).getD 0) := rfl
    rw [← hval]
    clear hval
    change Calls _ _ _ _ fun r w' => r = .returned (.tuple #[_, .bool e.asF.isSome]) ∧ _
    generalize e.asF = o at *
    generalize e.val = ev at *
    cases o with
    | none =>
      go_enter Tryd.func76, Tryd.ntmps76
      go_wp2_with fail
      refine HA.out.mono ?_
      rintro r w1 ⟨rfl, hb, ⟨hc, hc2⟩⟩
      simp only at hc hc2
      go_wp2
      go_ret2
      exact ⟨rfl, ((Below.refl _ w).alloc (Nat.le_refl _) _).trans hb⟩
    | some o =>
      go_enter Tryd.func76, Tryd.ntmps76
      go_wp2_with fail
      refine HA.out.mono ?_
      rintro r w1 ⟨rfl, hb, ⟨hc, hc2⟩⟩
      simp only at hc hc2
      go_wp2
      go_ret2
      exact ⟨rfl, ((Below.refl _ w).alloc (Nat.le_refl _) _).trans hb⟩
set_option maxRecDepth 100000 in
theorem faultPlace_any (e : Option EV) (w : World) (hE : ErrType w) : Calls Tryd.prog 77 #[errV e] w fun r w' => r = .returned (.tuple #[.int .i64 (((e.bind EV.asP).map Prod.fst).getD 0), .bool (e.bind EV.asP).isSome]) ∧ Below w.heap.size w w' := by
  have hE' := hE.below ((Below.refl _ w).alloc (Nat.le_refl _) (.cells #[.int .i64 0, .nilIface] 140))
  cases e with
  | none =>
    have HN := Lib.hid errorsAs_nil
    change Calls _ _ #[.nilIface] _ _
    go_enter Tryd.func77, Tryd.ntmps77
    go_wp2_with fail
    refine (HN.out _ _).mono ?_
    rintro r w1 ⟨rfl, rfl⟩
    go_wp2
    go_ret2
    exact ⟨rfl, (Below.refl _ w).alloc (Nat.le_refl _) _⟩
  | some e =>
    change Calls _ _ #[e.val] _ _
    have HA := Lib.hid (errorsAsP_any e w.heap.size (.int .i64 0) (.nilIface) (w.alloc (.cells #[.int .i64 0, .nilIface] 140)) hE' (by go_simp) (by go_simp) (by go_simp) (by go_simp))
    have hval : (((e.asP).map Prod.fst).getD 0 : Int) = ((((some e).bind EV.asP).map Prod.fst).getD 0) := rfl
    rw [← hval]
    clear hval
    change Calls _ _ _ _ fun r w' => r = .returned (.tuple #[_, .bool e.asP.isSome]) ∧ _
    generalize e.asP = o at *
    generalize e.val = ev at *
    cases o with
    | none =>
      go_enter Tryd.func77, Tryd.ntmps77
      go_wp2_with fail
      refine HA.out.mono ?_
      rintro r w1 ⟨rfl, hb, ⟨hc, hc2⟩⟩
      simp only at hc hc2
      go_wp2
      go_ret2
      exact ⟨rfl, ((Below.refl _ w).alloc (Nat.le_refl _) _).trans hb⟩
    | some o =>
      go_enter Tryd.func77, Tryd.ntmps77
      go_wp2_with fail
      refine HA.out.mono ?_
      rintro r w1 ⟨rfl, hb, ⟨hc, hc2⟩⟩
      simp only at hc hc2
      go_wp2
      go_ret2
      exact ⟨rfl, ((Below.refl _ w).alloc (Nat.le_refl _) _).trans hb⟩
end Go.Proofs.YtcegipkhmibdeaaDoor
