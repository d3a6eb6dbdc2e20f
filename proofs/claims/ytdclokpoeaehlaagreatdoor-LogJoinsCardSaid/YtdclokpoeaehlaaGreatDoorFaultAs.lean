/- fault.Code, fault.At, fault.Place. -/
import Derived.Test.YtdclokpoeaehlaaGreatDoorErrorsAs
namespace Go.Proofs.YtdclokpoeaehlaaGreatDoor
set_option linter.all false
open Go.RowKit

set_option maxRecDepth 100000 in
theorem errorsAs_nil (tv : Value) (w : World) : Calls Tryz.prog 81 #[.nilIface, tv] w fun r w' => r = .returned (.bool false) ∧ w = w' := by
  go_enter Tryz.func81, Tryz.ntmps81
  go_wp2
  go_ret
  exact ⟨rfl, rfl⟩
set_option maxRecDepth 100000 in
theorem faultCode_any (e : Option EV) (w : World) (hE : ErrType w) : Calls Tryz.prog 54 #[errV e] w fun r w' => r = .returned (.tuple #[.int .i64 ((e.bind EV.asC).getD 0), .bool (e.bind EV.asC).isSome]) ∧ Below w.heap.size w w' := by
  have hE' := hE.below ((Below.refl _ w).alloc (Nat.le_refl _) (.cells #[.int .i64 0] 46))
  cases e with
  | none =>
    have HN := Lib.hid errorsAs_nil
    change Calls _ _ #[.nilIface] _ _
    go_enter Tryz.func54, Tryz.ntmps54
    go_wp2_with fail
    refine (HN.out _ _).mono ?_
    rintro r w1 ⟨rfl, rfl⟩
    go_wp2
    go_ret2
    exact ⟨rfl, (Below.refl _ w).alloc (Nat.le_refl _) _⟩
  | some e =>
    change Calls _ _ #[e.val] _ _
    have HA := Lib.hid (errorsAsC_any e w.heap.size (.int .i64 0) (w.alloc (.cells #[.int .i64 0] 46)) hE' (by go_simp) (by go_simp))
    have hval : ((e.asC).getD 0 : Int) = (((some e).bind EV.asC).getD 0) := rfl
    rw [← hval]
    clear hval
    change Calls _ _ _ _ fun r w' => r = .returned (.tuple #[_, .bool e.asC.isSome]) ∧ _
    generalize e.asC = o at *
    generalize e.val = ev at *
    cases o with
    | none =>
      go_enter Tryz.func54, Tryz.ntmps54
      go_wp2_with fail
      refine HA.out.mono ?_
      rintro r w1 ⟨rfl, hb, hc⟩
      simp only at hc
      go_wp2
      go_ret2
      exact ⟨rfl, ((Below.refl _ w).alloc (Nat.le_refl _) _).trans hb⟩
    | some o =>
      go_enter Tryz.func54, Tryz.ntmps54
      go_wp2_with fail
      refine HA.out.mono ?_
      rintro r w1 ⟨rfl, hb, hc⟩
      simp only at hc
      go_wp2
      go_ret2
      exact ⟨rfl, ((Below.refl _ w).alloc (Nat.le_refl _) _).trans hb⟩
set_option maxRecDepth 100000 in
theorem faultAt_any (e : Option EV) (w : World) (hE : ErrType w) : Calls Tryz.prog 65 #[errV e] w fun r w' => r = .returned (.tuple #[.int .i64 (((e.bind EV.asF).map Prod.snd).getD 0), .bool (e.bind EV.asF).isSome]) ∧ Below w.heap.size w w' := by
  have hE' := hE.below ((Below.refl _ w).alloc (Nat.le_refl _) (.cells #[.int .i64 0, .int .i64 0] 113))
  cases e with
  | none =>
    have HN := Lib.hid errorsAs_nil
    change Calls _ _ #[.nilIface] _ _
    go_enter Tryz.func65, Tryz.ntmps65
    go_wp2_with fail
    refine (HN.out _ _).mono ?_
    rintro r w1 ⟨rfl, rfl⟩
    go_wp2
    go_ret2
    exact ⟨rfl, (Below.refl _ w).alloc (Nat.le_refl _) _⟩
  | some e =>
    change Calls _ _ #[e.val] _ _
    have HA := Lib.hid (errorsAsF_any e w.heap.size (.int .i64 0) (.int .i64 0) (w.alloc (.cells #[.int .i64 0, .int .i64 0] 113)) hE' (by go_simp) (by go_simp) (by go_simp) (by go_simp))
    have hval : (((e.asF).map Prod.snd).getD 0 : Int) = ((((some e).bind EV.asF).map Prod.snd).getD 0) := rfl
    rw [← hval]
    clear hval
    change Calls _ _ _ _ fun r w' => r = .returned (.tuple #[_, .bool e.asF.isSome]) ∧ _
    generalize e.asF = o at *
    generalize e.val = ev at *
    cases o with
    | none =>
      go_enter Tryz.func65, Tryz.ntmps65
      go_wp2_with fail
      refine HA.out.mono ?_
      rintro r w1 ⟨rfl, hb, ⟨hc, hc2⟩⟩
      simp only at hc hc2
      go_wp2
      go_ret2
      exact ⟨rfl, ((Below.refl _ w).alloc (Nat.le_refl _) _).trans hb⟩
    | some o =>
      go_enter Tryz.func65, Tryz.ntmps65
      go_wp2_with fail
      refine HA.out.mono ?_
      rintro r w1 ⟨rfl, hb, ⟨hc, hc2⟩⟩
      simp only at hc hc2
      go_wp2
      go_ret2
      exact ⟨rfl, ((Below.refl _ w).alloc (Nat.le_refl _) _).trans hb⟩
end Go.Proofs.YtdclokpoeaehlaaGreatDoor
