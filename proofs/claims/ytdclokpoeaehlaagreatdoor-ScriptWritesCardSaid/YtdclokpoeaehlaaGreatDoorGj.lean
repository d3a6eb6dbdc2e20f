/- ErrorsAs, FaultAs: together in one text. -/
import Derived.Test.YtdclokpoeaehlaaGreatDoorGi
import Derived.Test.YtdclokpoeaehlaaGreatDoorSAsF
/- errors.As at the three targets. -/
namespace Go.Proofs.YtdclokpoeaehlaaGreatDoor
set_option linter.all false
open Go.RowKit Go.Extern.Stop Go.Stop Go.Extern

set_option maxHeartbeats 4000000 in
set_option maxRecDepth 100000 in
theorem errorsAsC_any (e : EV) (tb : Nat) (o0 : Value) (w : World) (hE : ErrType w) (ht0 : w.cell? ⟨tb, 0, none⟩ = some o0) (hf0 : w.frozen? ⟨tb, 0, none⟩ = false) :
    Calls Tryz.prog 81 #[e.val, .iface 116 (.pointer (some ⟨tb, 0, none⟩))] w fun r w' => r = .returned (.bool e.asC.isSome) ∧ PostC w tb o0 e.asC w' := by
  have htl := World.block_lt_of_cell? w _ ht0
  simp only at htl
  have hel := hE.lt
  have hg : ((w.alloc (.cells #[.pointer (some ⟨tb, 0, none⟩)] 116)).alloc (.cells #[.pointer (some ⟨14, 116, none⟩), .pointer (some ⟨w.heap.size, 0, none⟩), .int .u64 150] 129)).cell? ⟨5, 0, none⟩ = some (.iface 149 (.agg #[.pointer (some ⟨14, 44, none⟩)])) := by
    rw [World.cell?_alloc_lt _ _ _ (by simp; omega), World.cell?_alloc_lt _ _ _ hel]; exact hE
  have x114 := @run_callFunc_extern Tryz.prog 94 _ (fun args => ReflectliteValue.unpack (args.getD 0 (.tuple #[]))) Tryz.func94 (by kernel_rfl) (by kernel_rfl) (by kernel_rfl) (by kernel_rfl)
  have x115 := @run_callFunc_extern Tryz.prog 95 _ (ReflectliteValue.methodAny (ReflectliteValue.valueError "reflectlite.Value.Type" 0) (fun t _ _ _ => ReflectliteType.toType t)) Tryz.func95 (by kernel_rfl) (by kernel_rfl) (by kernel_rfl) (by kernel_rfl)
  have x116 := @run_callFunc_extern Tryz.prog 96 _ (ReflectliteValue.method (ReflectliteValue.valueError "reflectlite.Value.IsNil" 0) ReflectliteValue.isNil) Tryz.func96 (by kernel_rfl) (by kernel_rfl) (by kernel_rfl) (by kernel_rfl)
  have x142 := @run_callFunc_extern Tryz.prog 150 _ (ReflectliteType.abiMethod fun t => (fun a : Nat => Value.int IntKind.u8 (a : Int)) <$> Rtype.kind t) Tryz.func150 (by kernel_rfl) (by kernel_rfl) (by kernel_rfl) (by kernel_rfl)
  have xel := @run_callFunc_extern Tryz.prog 169 _ (ReflectliteType.method ReflectliteType.elem) Tryz.func169 (by kernel_rfl) (by kernel_rfl) (by kernel_rfl) (by kernel_rfl)
  have xim := @run_callFunc_extern Tryz.prog 170 _ (ReflectliteType.relation "Implements" ReflectliteType.implements_) Tryz.func170 (by kernel_rfl) (by kernel_rfl) (by kernel_rfl) (by kernel_rfl)
  have f6 := valueOfC ⟨tb, 0, none⟩
  have f7 := fun a => typeC a
  have mK := methodKind
  have mE := methodElem
  have mI := methodImplements
  have k1 := kindPC
  have k2 := kindEC
  have e1 := elemC
  have i1 := implementsC
  have n1 := fun a W => isNilC a ⟨tb, 0, none⟩ W
  have HA := Lib.hid (asC_any e tb w.heap.size o0 ((w.alloc (.cells #[.pointer (some ⟨tb, 0, none⟩)] 116)).alloc (.cells #[.pointer (some ⟨14, 116, none⟩), .pointer (some ⟨w.heap.size, 0, none⟩), .int .u64 150] 129)) (by go_simp) (by go_simp) (by go_simp))
  clear ht0 hf0 
  obtain ⟨t0, v0, he0⟩ := e.iface
  rw [he0] at HA ⊢
  clear he0
  generalize e.asC = o at *
  go_enter Tryz.func81, Tryz.ntmps81
  go_wp2_with fail
  refine HA.out.mono ?_
  rintro r w1 ⟨rfl, hp⟩
  go_wp2
  go_ret
  exact ⟨rfl, (((Below.refl tb w).alloc (Nat.le_of_lt htl) _).alloc (by simp; omega) _).trans hp.1, hp.2⟩
set_option maxHeartbeats 4000000 in
set_option maxRecDepth 100000 in
theorem errorsAsF_any (e : EV) (tb : Nat) (o0 o1 : Value) (w : World) (hE : ErrType w) (ht0 : w.cell? ⟨tb, 0, none⟩ = some o0) (hf0 : w.frozen? ⟨tb, 0, none⟩ = false) (ht1 : w.cell? ⟨tb, 1, none⟩ = some o1) (hf1 : w.frozen? ⟨tb, 1, none⟩ = false) :
    Calls Tryz.prog 81 #[e.val, .iface 119 (.pointer (some ⟨tb, 0, none⟩))] w fun r w' => r = .returned (.bool e.asF.isSome) ∧ PostF w tb o0 o1 e.asF w' := by
  have htl := World.block_lt_of_cell? w _ ht0
  simp only at htl
  have hel := hE.lt
  have hg : ((w.alloc (.cells #[.pointer (some ⟨tb, 0, none⟩)] 119)).alloc (.cells #[.pointer (some ⟨14, 119, none⟩), .pointer (some ⟨w.heap.size, 0, none⟩), .int .u64 150] 129)).cell? ⟨5, 0, none⟩ = some (.iface 149 (.agg #[.pointer (some ⟨14, 44, none⟩)])) := by
    rw [World.cell?_alloc_lt _ _ _ (by simp; omega), World.cell?_alloc_lt _ _ _ hel]; exact hE
  have x114 := @run_callFunc_extern Tryz.prog 94 _ (fun args => ReflectliteValue.unpack (args.getD 0 (.tuple #[]))) Tryz.func94 (by kernel_rfl) (by kernel_rfl) (by kernel_rfl) (by kernel_rfl)
  have x115 := @run_callFunc_extern Tryz.prog 95 _ (ReflectliteValue.methodAny (ReflectliteValue.valueError "reflectlite.Value.Type" 0) (fun t _ _ _ => ReflectliteType.toType t)) Tryz.func95 (by kernel_rfl) (by kernel_rfl) (by kernel_rfl) (by kernel_rfl)
  have x116 := @run_callFunc_extern Tryz.prog 96 _ (ReflectliteValue.method (ReflectliteValue.valueError "reflectlite.Value.IsNil" 0) ReflectliteValue.isNil) Tryz.func96 (by kernel_rfl) (by kernel_rfl) (by kernel_rfl) (by kernel_rfl)
  have x142 := @run_callFunc_extern Tryz.prog 150 _ (ReflectliteType.abiMethod fun t => (fun a : Nat => Value.int IntKind.u8 (a : Int)) <$> Rtype.kind t) Tryz.func150 (by kernel_rfl) (by kernel_rfl) (by kernel_rfl) (by kernel_rfl)
  have xel := @run_callFunc_extern Tryz.prog 169 _ (ReflectliteType.method ReflectliteType.elem) Tryz.func169 (by kernel_rfl) (by kernel_rfl) (by kernel_rfl) (by kernel_rfl)
  have xim := @run_callFunc_extern Tryz.prog 170 _ (ReflectliteType.relation "Implements" ReflectliteType.implements_) Tryz.func170 (by kernel_rfl) (by kernel_rfl) (by kernel_rfl) (by kernel_rfl)
  have f6 := valueOfF ⟨tb, 0, none⟩
  have f7 := fun a => typeF a
  have mK := methodKind
  have mE := methodElem
  have mI := methodImplements
  have k1 := kindPF
  have k2 := kindEF
  have e1 := elemF
  have i1 := implementsF
  have n1 := fun a W => isNilF a ⟨tb, 0, none⟩ W
  have HA := Lib.hid (asF_any e tb w.heap.size o0 o1 ((w.alloc (.cells #[.pointer (some ⟨tb, 0, none⟩)] 119)).alloc (.cells #[.pointer (some ⟨14, 119, none⟩), .pointer (some ⟨w.heap.size, 0, none⟩), .int .u64 150] 129)) (by go_simp) (by go_simp) (by go_simp) (by go_simp) (by go_simp))
  clear ht0 hf0 ht1 hf1
  obtain ⟨t0, v0, he0⟩ := e.iface
  rw [he0] at HA ⊢
  clear he0
  generalize e.asF = o at *
  go_enter Tryz.func81, Tryz.ntmps81
  go_wp2_with fail
  refine HA.out.mono ?_
  rintro r w1 ⟨rfl, hp⟩
  go_wp2
  go_ret
  exact ⟨rfl, (((Below.refl tb w).alloc (Nat.le_of_lt htl) _).alloc (by simp; omega) _).trans hp.1, hp.2⟩
end Go.Proofs.YtdclokpoeaehlaaGreatDoor
/- fault.Code, fault.At, fault.Place. -/
namespace Go.Proofs.YtdclokpoeaehlaaGreatDoor
set_option linter.all false
open Go.RowKit

set_option maxRecDepth 100000 in
theorem errorsAs_nil (tv : Value) (w : World) : Calls Tryz.prog 81 #[.nilIface, tv] w fun r w' => r = .returned (.bool false) ∧ w = w' := by
  go_enter Tryz.func81, Tryz.ntmps81
  go_wp2
  go_ret
  exact ⟨rfl, rfl⟩
set_option maxRecDepth 100000 in
theorem faultCode_any (e : Option EV) (w : World) (hE : ErrType w) : Calls Tryz.prog 54 #[errV e] w fun r w' => r = .returned (.tuple #[.int .i64 ((e.bind EV.asC).getD 0), .bool (e.bind EV.asC).isSome]) ∧ Below w.heap.size w w' := by
  have hE' := hE.below ((Below.refl _ w).alloc (Nat.le_refl _) (.cells #[.int .i64 0] 46))
  cases e with
  | none =>
    have HN := Lib.hid errorsAs_nil
    change Calls _ _ #[.nilIface] _ _
    go_enter Tryz.func54, Tryz.ntmps54
    go_wp2_with fail
    refine (HN.out _ _).mono ?_
    rintro r w1 ⟨rfl, rfl⟩
    go_wp2
    go_ret2
    exact ⟨rfl, (Below.refl _ w).alloc (Nat.le_refl _) _⟩
  | some e =>
    change Calls _ _ #[e.val] _ _
    have HA := Lib.hid (errorsAsC_any e w.heap.size (.int .i64 0) (w.alloc (.cells #[.int .i64 0] 46)) hE' (by go_simp) (by go_simp))
    have hval : ((e.asC).getD 0 : Int) = (((some e).bind EV.asC).getD 0) := rfl
    rw [← hval]
    clear hval
    change Calls _ _ _ _ fun r w' => r = .returned (.tuple #[_, .bool e.asC.isSome]) ∧ _
    generalize e.asC = o at *
    generalize e.val = ev at *
    cases o with
    | none =>
      go_enter Tryz.func54, Tryz.ntmps54
      go_wp2_with fail
      refine HA.out.mono ?_
      rintro r w1 ⟨rfl, hb, hc⟩
      simp only at hc
      go_wp2
      go_ret2
      exact ⟨rfl, ((Below.refl _ w).alloc (Nat.le_refl _) _).trans hb⟩
    | some o =>
      go_enter Tryz.func54, Tryz.ntmps54
      go_wp2_with fail
      refine HA.out.mono ?_
      rintro r w1 ⟨rfl, hb, hc⟩
      simp only at hc
      go_wp2
      go_ret2
      exact ⟨rfl, ((Below.refl _ w).alloc (Nat.le_refl _) _).trans hb⟩
set_option maxRecDepth 100000 in
theorem faultAt_any (e : Option EV) (w : World) (hE : ErrType w) : Calls Tryz.prog 65 #[errV e] w fun r w' => r = .returned (.tuple #[.int .i64 (((e.bind EV.asF).map Prod.snd).getD 0), .bool (e.bind EV.asF).isSome]) ∧ Below w.heap.size w w' := by
  have hE' := hE.below ((Below.refl _ w).alloc (Nat.le_refl _) (.cells #[.int .i64 0, .int .i64 0] 113))
  cases e with
  | none =>
    have HN := Lib.hid errorsAs_nil
    change Calls _ _ #[.nilIface] _ _
    go_enter Tryz.func65, Tryz.ntmps65
    go_wp2_with fail
    refine (HN.out _ _).mono ?_
    rintro r w1 ⟨rfl, rfl⟩
    go_wp2
    go_ret2
    exact ⟨rfl, (Below.refl _ w).alloc (Nat.le_refl _) _⟩
  | some e =>
    change Calls _ _ #[e.val] _ _
    have HA := Lib.hid (errorsAsF_any e w.heap.size (.int .i64 0) (.int .i64 0) (w.alloc (.cells #[.int .i64 0, .int .i64 0] 113)) hE' (by go_simp) (by go_simp) (by go_simp) (by go_simp))
    have hval : (((e.asF).map Prod.snd).getD 0 : Int) = ((((some e).bind EV.asF).map Prod.snd).getD 0) := rfl
    rw [← hval]
    clear hval
    change Calls _ _ _ _ fun r w' => r = .returned (.tuple #[_, .bool e.asF.isSome]) ∧ _
    generalize e.asF = o at *
    generalize e.val = ev at *
    cases o with
    | none =>
      go_enter Tryz.func65, Tryz.ntmps65
      go_wp2_with fail
      refine HA.out.mono ?_
      rintro r w1 ⟨rfl, hb, ⟨hc, hc2⟩⟩
      simp only at hc hc2
      go_wp2
      go_ret2
      exact ⟨rfl, ((Below.refl _ w).alloc (Nat.le_refl _) _).trans hb⟩
    | some o =>
      go_enter Tryz.func65, Tryz.ntmps65
      go_wp2_with fail
      refine HA.out.mono ?_
      rintro r w1 ⟨rfl, hb, ⟨hc, hc2⟩⟩
      simp only at hc hc2
      go_wp2
      go_ret2
      exact ⟨rfl, ((Below.refl _ w).alloc (Nat.le_refl _) _).trans hb⟩
end Go.Proofs.YtdclokpoeaehlaaGreatDoor
