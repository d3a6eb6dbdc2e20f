/- errors.As at the three targets. -/
import Derived.Test.YtdclokpoeaehlaaGreatDoorAsC
import Derived.Test.YtdclokpoeaehlaaGreatDoorAsF
namespace Go.Proofs.YtdclokpoeaehlaaGreatDoor
set_option linter.all false
open Go.RowKit Go.Extern.Stop Go.Stop Go.Extern

set_option maxHeartbeats 4000000 in
set_option maxRecDepth 100000 in
theorem errorsAsC_any (e : EV) (tb : Nat) (o0 : Value) (w : World) (hE : ErrType w) (ht0 : w.cell? ⟨tb, 0, none⟩ = some o0) (hf0 : w.frozen? ⟨tb, 0, none⟩ = false) :
    Calls Tryz.prog 81 #[e.val, .iface 116 (.pointer (some ⟨tb, 0, none⟩))] w fun r w' => r = .returned (.bool e.asC.isSome) ∧ PostC w tb o0 e.asC w' := by
  have htl := World.block_lt_of_cell? w _ ht0
  simp only at htl
  have hel := hE.lt
  have hg : ((w.alloc (.cells #[.pointer (some ⟨tb, 0, none⟩)] 116)).alloc (.cells #[.pointer (some ⟨14, 116, none⟩), .pointer (some ⟨w.heap.size, 0, none⟩), .int .u64 150] 129)).cell? ⟨5, 0, none⟩ = some (.iface 149 (.agg #[.pointer (some ⟨14, 44, none⟩)])) := by
    rw [World.cell?_alloc_lt _ _ _ (by simp; omega), World.cell?_alloc_lt _ _ _ hel]; exact hE
  have x114 := @run_callFunc_extern Tryz.prog 94 _ (fun args => ReflectliteValue.unpack (args.getD 0 (.tuple #[]))) Tryz.func94 (by kernel_rfl) (by kernel_rfl) (by kernel_rfl) (by kernel_rfl)
  have x115 := @run_callFunc_extern Tryz.prog 95 _ (ReflectliteValue.methodAny (ReflectliteValue.valueError "reflectlite.Value.Type" 0) (fun t _ _ _ => ReflectliteType.toType t)) Tryz.func95 (by kernel_rfl) (by kernel_rfl) (by kernel_rfl) (by kernel_rfl)
  have x116 := @run_callFunc_extern Tryz.prog 96 _ (ReflectliteValue.method (ReflectliteValue.valueError "reflectlite.Value.IsNil" 0) ReflectliteValue.isNil) Tryz.func96 (by kernel_rfl) (by kernel_rfl) (by kernel_rfl) (by kernel_rfl)
  have x142 := @run_callFunc_extern Tryz.prog 150 _ (ReflectliteType.abiMethod fun t => (fun a : Nat => Value.int IntKind.u8 (a : Int)) <$> Rtype.kind t) Tryz.func150 (by kernel_rfl) (by kernel_rfl) (by kernel_rfl) (by kernel_rfl)
  have xel := @run_callFunc_extern Tryz.prog 169 _ (ReflectliteType.method ReflectliteType.elem) Tryz.func169 (by kernel_rfl) (by kernel_rfl) (by kernel_rfl) (by kernel_rfl)
  have xim := @run_callFunc_extern Tryz.prog 170 _ (ReflectliteType.relation "Implements" ReflectliteType.implements_) Tryz.func170 (by kernel_rfl) (by kernel_rfl) (by kernel_rfl) (by kernel_rfl)
  have f6 := valueOfC ⟨tb, 0, none⟩
  have f7 := fun a => typeC a
  have mK := methodKind
  have mE := methodElem
  have mI := methodImplements
  have k1 := kindPC
  have k2 := kindEC
  have e1 := elemC
  have i1 := implementsC
  have n1 := fun a W => isNilC a ⟨tb, 0, none⟩ W
  have HA := Lib.hid (asC_any e tb w.heap.size o0 ((w.alloc (.cells #[.pointer (some ⟨tb, 0, none⟩)] 116)).alloc (.cells #[.pointer (some ⟨14, 116, none⟩), .pointer (some ⟨w.heap.size, 0, none⟩), .int .u64 150] 129)) (by go_simp) (by go_simp) (by go_simp))
  clear ht0 hf0 
  obtain ⟨t0, v0, he0⟩ := e.iface
  rw [he0] at HA ⊢
  clear he0
  generalize e.asC = o at *
  go_enter Tryz.func81, Tryz.ntmps81
  go_wp2_with fail
  refine HA.out.mono ?_
  rintro r w1 ⟨rfl, hp⟩
  go_wp2
  go_ret
  exact ⟨rfl, (((Below.refl tb w).alloc (Nat.le_of_lt htl) _).alloc (by simp; omega) _).trans hp.1, hp.2⟩
set_option maxHeartbeats 4000000 in
set_option maxRecDepth 100000 in
theorem errorsAsF_any (e : EV) (tb : Nat) (o0 o1 : Value) (w : World) (hE : ErrType w) (ht0 : w.cell? ⟨tb, 0, none⟩ = some o0) (hf0 : w.frozen? ⟨tb, 0, none⟩ = false) (ht1 : w.cell? ⟨tb, 1, none⟩ = some o1) (hf1 : w.frozen? ⟨tb, 1, none⟩ = false) :
    Calls Tryz.prog 81 #[e.val, .iface 119 (.pointer (some ⟨tb, 0, none⟩))] w fun r w' => r = .returned (.bool e.asF.isSome) ∧ PostF w tb o0 o1 e.asF w' := by
  have htl := World.block_lt_of_cell? w _ ht0
  simp only at htl
  have hel := hE.lt
  have hg : ((w.alloc (.cells #[.pointer (some ⟨tb, 0, none⟩)] 119)).alloc (.cells #[.pointer (some ⟨14, 119, none⟩), .pointer (some ⟨w.heap.size, 0, none⟩), .int .u64 150] 129)).cell? ⟨5, 0, none⟩ = some (.iface 149 (.agg #[.pointer (some ⟨14, 44, none⟩)])) := by
    rw [World.cell?_alloc_lt _ _ _ (by simp; omega), World.cell?_alloc_lt _ _ _ hel]; exact hE
  have x114 := @run_callFunc_extern Tryz.prog 94 _ (fun args => ReflectliteValue.unpack (args.getD 0 (.tuple #[]))) Tryz.func94 (by kernel_rfl) (by kernel_rfl) (by kernel_rfl) (by kernel_rfl)
  have x115 := @run_callFunc_extern Tryz.prog 95 _ (ReflectliteValue.methodAny (ReflectliteValue.valueError "reflectlite.Value.Type" 0) (fun t _ _ _ => ReflectliteType.toType t)) Tryz.func95 (by kernel_rfl) (by kernel_rfl) (by kernel_rfl) (by kernel_rfl)
  have x116 := @run_callFunc_extern Tryz.prog 96 _ (ReflectliteValue.method (ReflectliteValue.valueError "reflectlite.Value.IsNil" 0) ReflectliteValue.isNil) Tryz.func96 (by kernel_rfl) (by kernel_rfl) (by kernel_rfl) (by kernel_rfl)
  have x142 := @run_callFunc_extern Tryz.prog 150 _ (ReflectliteType.abiMethod fun t => (fun a : Nat => Value.int IntKind.u8 (a : Int)) <$> Rtype.kind t) Tryz.func150 (by kernel_rfl) (by kernel_rfl) (by kernel_rfl) (by kernel_rfl)
  have xel := @run_callFunc_extern Tryz.prog 169 _ (ReflectliteType.method ReflectliteType.elem) Tryz.func169 (by kernel_rfl) (by kernel_rfl) (by kernel_rfl) (by kernel_rfl)
  have xim := @run_callFunc_extern Tryz.prog 170 _ (ReflectliteType.relation "Implements" ReflectliteType.implements_) Tryz.func170 (by kernel_rfl) (by kernel_rfl) (by kernel_rfl) (by kernel_rfl)
  have f6 := valueOfF ⟨tb, 0, none⟩
  have f7 := fun a => typeF a
  have mK := methodKind
  have mE := methodElem
  have mI := methodImplements
  have k1 := kindPF
  have k2 := kindEF
  have e1 := elemF
  have i1 := implementsF
  have n1 := fun a W => isNilF a ⟨tb, 0, none⟩ W
  have HA := Lib.hid (asF_any e tb w.heap.size o0 o1 ((w.alloc (.cells #[.pointer (some ⟨tb, 0, none⟩)] 119)).alloc (.cells #[.pointer (some ⟨14, 119, none⟩), .pointer (some ⟨w.heap.size, 0, none⟩), .int .u64 150] 129)) (by go_simp) (by go_simp) (by go_simp) (by go_simp) (by go_simp))
  clear ht0 hf0 ht1 hf1
  obtain ⟨t0, v0, he0⟩ := e.iface
  rw [he0] at HA ⊢
  clear he0
  generalize e.asF = o at *
  go_enter Tryz.func81, Tryz.ntmps81
  go_wp2_with fail
  refine HA.out.mono ?_
  rintro r w1 ⟨rfl, hp⟩
  go_wp2
  go_ret
  exact ⟨rfl, (((Below.refl tb w).alloc (Nat.le_of_lt htl) _).alloc (by simp; omega) _).trans hp.1, hp.2⟩
end Go.Proofs.YtdclokpoeaehlaaGreatDoor
