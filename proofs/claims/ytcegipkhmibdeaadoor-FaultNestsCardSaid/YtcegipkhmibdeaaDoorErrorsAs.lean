/- errors.As at the three targets. -/
import Derived.Test.YtcegipkhmibdeaaDoorAsC
import Derived.Test.YtcegipkhmibdeaaDoorAsF
import Derived.Test.YtcegipkhmibdeaaDoorAsP
namespace Go.Proofs.YtcegipkhmibdeaaDoor
set_option linter.all false
open Go.RowKit Go.Extern.Stop Go.Stop Go.Extern

set_option maxHeartbeats 4000000 in
set_option maxRecDepth 100000 in
theorem errorsAsC_any (e : EV) (tb : Nat) (o0 : Value) (w : World) (hE : ErrType w) (ht0 : w.cell? ⟨tb, 0, none⟩ = some o0) (hf0 : w.frozen? ⟨tb, 0, none⟩ = false) :
    Calls Tryd.prog 88 #[e.val, .iface 135 (.pointer (some ⟨tb, 0, none⟩))] w fun r w' => r = .returned (.bool e.asC.isSome) ∧ PostC w tb o0 e.asC w' := by
  have htl := World.block_lt_of_cell? w _ ht0
  simp only at htl
  have hel := hE.lt
  have hg : ((w.alloc (.cells #[.pointer (some ⟨tb, 0, none⟩)] 135)).alloc (.cells #[.pointer (some ⟨7, 135, none⟩), .pointer (some ⟨w.heap.size, 0, none⟩), .int .u64 150] 154)).cell? ⟨3, 0, none⟩ = some (.iface 172 (.agg #[.pointer (some ⟨7, 47, none⟩)])) := by
    rw [World.cell?_alloc_lt _ _ _ (by simp; omega), World.cell?_alloc_lt _ _ _ hel]; exact hE
  have x114 := @run_callFunc_extern Tryd.prog 114 _ (fun args => ReflectliteValue.unpack (args.getD 0 (.tuple #[]))) Tryd.func114 (by kernel_rfl) (by kernel_rfl) (by kernel_rfl) (by kernel_rfl)
  have x115 := @run_callFunc_extern Tryd.prog 115 _ (ReflectliteValue.methodAny (ReflectliteValue.valueError "reflectlite.Value.Type" 0) (fun t _ _ _ => ReflectliteType.toType t)) Tryd.func115 (by kernel_rfl) (by kernel_rfl) (by kernel_rfl) (by kernel_rfl)
  have x116 := @run_callFunc_extern Tryd.prog 116 _ (ReflectliteValue.method (ReflectliteValue.valueError "reflectlite.Value.IsNil" 0) ReflectliteValue.isNil) Tryd.func116 (by kernel_rfl) (by kernel_rfl) (by kernel_rfl) (by kernel_rfl)
  have x142 := @run_callFunc_extern Tryd.prog 142 _ (ReflectliteType.abiMethod fun t => (fun a : Nat => Value.int IntKind.u8 (a : Int)) <$> Rtype.kind t) Tryd.func142 (by kernel_rfl) (by kernel_rfl) (by kernel_rfl) (by kernel_rfl)
  have xel := @run_callFunc_extern Tryd.prog 172 _ (ReflectliteType.method ReflectliteType.elem) Tryd.func172 (by kernel_rfl) (by kernel_rfl) (by kernel_rfl) (by kernel_rfl)
  have xim := @run_callFunc_extern Tryd.prog 173 _ (ReflectliteType.relation "Implements" ReflectliteType.implements_) Tryd.func173 (by kernel_rfl) (by kernel_rfl) (by kernel_rfl) (by kernel_rfl)
  have f6 := valueOfC ⟨tb, 0, none⟩
  have f7 := fun a => typeC a
  have mK := methodKind
  have mE := methodElem
  have mI := methodImplements
  have k1 := kindPC
  have k2 := kindEC
  have e1 := elemC
  have i1 := implementsC
  have n1 := fun a W => isNilC a ⟨tb, 0, none⟩ W
  have HA := Lib.hid (asC_any e tb w.heap.size o0 ((w.alloc (.cells #[.pointer (some ⟨tb, 0, none⟩)] 135)).alloc (.cells #[.pointer (some ⟨7, 135, none⟩), .pointer (some ⟨w.heap.size, 0, none⟩), .int .u64 150] 154)) (by go_simp) (by go_simp) (by go_simp))
  clear ht0 hf0 
  obtain ⟨t0, v0, he0⟩ := e.iface
  rw [he0] at HA ⊢
  clear he0
  generalize e.asC = o at *
  go_enter Tryd.func88, Tryd.ntmps88
  go_wp2_with fail
  refine HA.out.mono ?_
  rintro r w1 ⟨rfl, hp⟩
  go_wp2
  go_ret
  exact ⟨rfl, (((Below.refl tb w).alloc (Nat.le_of_lt htl) _).alloc (by simp; omega) _).trans hp.1, hp.2⟩
set_option maxHeartbeats 4000000 in
set_option maxRecDepth 100000 in
theorem errorsAsF_any (e : EV) (tb : Nat) (o0 o1 : Value) (w : World) (hE : ErrType w) (ht0 : w.cell? ⟨tb, 0, none⟩ = some o0) (hf0 : w.frozen? ⟨tb, 0, none⟩ = false) (ht1 : w.cell? ⟨tb, 1, none⟩ = some o1) (hf1 : w.frozen? ⟨tb, 1, none⟩ = false) :
    Calls Tryd.prog 88 #[e.val, .iface 112 (.pointer (some ⟨tb, 0, none⟩))] w fun r w' => r = .returned (.bool e.asF.isSome) ∧ PostF w tb o0 o1 e.asF w' := by
  have htl := World.block_lt_of_cell? w _ ht0
  simp only at htl
  have hel := hE.lt
  have hg : ((w.alloc (.cells #[.pointer (some ⟨tb, 0, none⟩)] 112)).alloc (.cells #[.pointer (some ⟨7, 112, none⟩), .pointer (some ⟨w.heap.size, 0, none⟩), .int .u64 150] 154)).cell? ⟨3, 0, none⟩ = some (.iface 172 (.agg #[.pointer (some ⟨7, 47, none⟩)])) := by
    rw [World.cell?_alloc_lt _ _ _ (by simp; omega), World.cell?_alloc_lt _ _ _ hel]; exact hE
  have x114 := @run_callFunc_extern Tryd.prog 114 _ (fun args => ReflectliteValue.unpack (args.getD 0 (.tuple #[]))) Tryd.func114 (by kernel_rfl) (by kernel_rfl) (by kernel_rfl) (by kernel_rfl)
  have x115 := @run_callFunc_extern Tryd.prog 115 _ (ReflectliteValue.methodAny (ReflectliteValue.valueError "reflectlite.Value.Type" 0) (fun t _ _ _ => ReflectliteType.toType t)) Tryd.func115 (by kernel_rfl) (by kernel_rfl) (by kernel_rfl) (by kernel_rfl)
  have x116 := @run_callFunc_extern Tryd.prog 116 _ (ReflectliteValue.method (ReflectliteValue.valueError "reflectlite.Value.IsNil" 0) ReflectliteValue.isNil) Tryd.func116 (by kernel_rfl) (by kernel_rfl) (by kernel_rfl) (by kernel_rfl)
  have x142 := @run_callFunc_extern Tryd.prog 142 _ (ReflectliteType.abiMethod fun t => (fun a : Nat => Value.int IntKind.u8 (a : Int)) <$> Rtype.kind t) Tryd.func142 (by kernel_rfl) (by kernel_rfl) (by kernel_rfl) (by kernel_rfl)
  have xel := @run_callFunc_extern Tryd.prog 172 _ (ReflectliteType.method ReflectliteType.elem) Tryd.func172 (by kernel_rfl) (by kernel_rfl) (by kernel_rfl) (by kernel_rfl)
  have xim := @run_callFunc_extern Tryd.prog 173 _ (ReflectliteType.relation "Implements" ReflectliteType.implements_) Tryd.func173 (by kernel_rfl) (by kernel_rfl) (by kernel_rfl) (by kernel_rfl)
  have f6 := valueOfF ⟨tb, 0, none⟩
  have f7 := fun a => typeF a
  have mK := methodKind
  have mE := methodElem
  have mI := methodImplements
  have k1 := kindPF
  have k2 := kindEF
  have e1 := elemF
  have i1 := implementsF
  have n1 := fun a W => isNilF a ⟨tb, 0, none⟩ W
  have HA := Lib.hid (asF_any e tb w.heap.size o0 o1 ((w.alloc (.cells #[.pointer (some ⟨tb, 0, none⟩)] 112)).alloc (.cells #[.pointer (some ⟨7, 112, none⟩), .pointer (some ⟨w.heap.size, 0, none⟩), .int .u64 150] 154)) (by go_simp) (by go_simp) (by go_simp) (by go_simp) (by go_simp))
  clear ht0 hf0 ht1 hf1
  obtain ⟨t0, v0, he0⟩ := e.iface
  rw [he0] at HA ⊢
  clear he0
  generalize e.asF = o at *
  go_enter Tryd.func88, Tryd.ntmps88
  go_wp2_with fail
  refine HA.out.mono ?_
  rintro r w1 ⟨rfl, hp⟩
  go_wp2
  go_ret
  exact ⟨rfl, (((Below.refl tb w).alloc (Nat.le_of_lt htl) _).alloc (by simp; omega) _).trans hp.1, hp.2⟩
set_option maxHeartbeats 4000000 in
set_option maxRecDepth 100000 in
theorem errorsAsP_any (e : EV) (tb : Nat) (o0 o1 : Value) (w : World) (hE : ErrType w) (ht0 : w.cell? ⟨tb, 0, none⟩ = some o0) (hf0 : w.frozen? ⟨tb, 0, none⟩ = false) (ht1 : w.cell? ⟨tb, 1, none⟩ = some o1) (hf1 : w.frozen? ⟨tb, 1, none⟩ = false) :
    Calls Tryd.prog 88 #[e.val, .iface 141 (.pointer (some ⟨tb, 0, none⟩))] w fun r w' => r = .returned (.bool e.asP.isSome) ∧ PostP w tb o0 o1 e.asP w' := by
  have htl := World.block_lt_of_cell? w _ ht0
  simp only at htl
  have hel := hE.lt
  have hg : ((w.alloc (.cells #[.pointer (some ⟨tb, 0, none⟩)] 141)).alloc (.cells #[.pointer (some ⟨7, 141, none⟩), .pointer (some ⟨w.heap.size, 0, none⟩), .int .u64 150] 154)).cell? ⟨3, 0, none⟩ = some (.iface 172 (.agg #[.pointer (some ⟨7, 47, none⟩)])) := by
    rw [World.cell?_alloc_lt _ _ _ (by simp; omega), World.cell?_alloc_lt _ _ _ hel]; exact hE
  have x114 := @run_callFunc_extern Tryd.prog 114 _ (fun args => ReflectliteValue.unpack (args.getD 0 (.tuple #[]))) Tryd.func114 (by kernel_rfl) (by kernel_rfl) (by kernel_rfl) (by kernel_rfl)
  have x115 := @run_callFunc_extern Tryd.prog 115 _ (ReflectliteValue.methodAny (ReflectliteValue.valueError "reflectlite.Value.Type" 0) (fun t _ _ _ => ReflectliteType.toType t)) Tryd.func115 (by kernel_rfl) (by kernel_rfl) (by kernel_rfl) (by kernel_rfl)
  have x116 := @run_callFunc_extern Tryd.prog 116 _ (ReflectliteValue.method (ReflectliteValue.valueError "reflectlite.Value.IsNil" 0) ReflectliteValue.isNil) Tryd.func116 (by kernel_rfl) (by kernel_rfl) (by kernel_rfl) (by kernel_rfl)
  have x142 := @run_callFunc_extern Tryd.prog 142 _ (ReflectliteType.abiMethod fun t => (fun a : Nat => Value.int IntKind.u8 (a : Int)) <$> Rtype.kind t) Tryd.func142 (by kernel_rfl) (by kernel_rfl) (by kernel_rfl) (by kernel_rfl)
  have xel := @run_callFunc_extern Tryd.prog 172 _ (ReflectliteType.method ReflectliteType.elem) Tryd.func172 (by kernel_rfl) (by kernel_rfl) (by kernel_rfl) (by kernel_rfl)
  have xim := @run_callFunc_extern Tryd.prog 173 _ (ReflectliteType.relation "Implements" ReflectliteType.implements_) Tryd.func173 (by kernel_rfl) (by kernel_rfl) (by kernel_rfl) (by kernel_rfl)
  have f6 := valueOfP ⟨tb, 0, none⟩
  have f7 := fun a => typeP a
  have mK := methodKind
  have mE := methodElem
  have mI := methodImplements
  have k1 := kindPP
  have k2 := kindEP
  have e1 := elemP
  have i1 := implementsP
  have n1 := fun a W => isNilP a ⟨tb, 0, none⟩ W
  have HA := Lib.hid (asP_any e tb w.heap.size o0 o1 ((w.alloc (.cells #[.pointer (some ⟨tb, 0, none⟩)] 141)).alloc (.cells #[.pointer (some ⟨7, 141, none⟩), .pointer (some ⟨w.heap.size, 0, none⟩), .int .u64 150] 154)) (by go_simp) (by go_simp) (by go_simp) (by go_simp) (by go_simp))
  clear ht0 hf0 ht1 hf1
  obtain ⟨t0, v0, he0⟩ := e.iface
  rw [he0] at HA ⊢
  clear he0
  generalize e.asP = o at *
  go_enter Tryd.func88, Tryd.ntmps88
  go_wp2_with fail
  refine HA.out.mono ?_
  rintro r w1 ⟨rfl, hp⟩
  go_wp2
  go_ret
  exact ⟨rfl, (((Below.refl tb w).alloc (Nat.le_of_lt htl) _).alloc (by simp; omega) _).trans hp.1, hp.2⟩
end Go.Proofs.YtcegipkhmibdeaaDoor
