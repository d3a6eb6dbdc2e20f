/- errors.As at the targets *api.Code, *api.Fault and *fault.placed: closed facts on internal/reflectlite's entries. -/
import Derived.Test.YtcegipkhmibdeaaDoorClone
import Derived.LaidEql
import Derived.Stop.Asserts
import Derived.RowKitTokens
import Derived.Deep.LoopGhost
namespace Go.Proofs.YtcegipkhmibdeaaDoor
set_option linter.all false
open Go.RowKit Go.Extern.Stop Go.Stop Go.Extern

theorem methodKind (h : Value) (w : World) : (Go.method 329 172 (.agg #[h]) "Kind").run Tryd.prog w = .ok (142, h) w := by kernel_rfl
theorem methodElem (h : Value) (w : World) : (Go.method 329 172 (.agg #[h]) "Elem").run Tryd.prog w = .ok (172, .agg #[h]) w := by kernel_rfl
theorem methodImplements (h : Value) (w : World) : (Go.method 329 172 (.agg #[h]) "Implements").run Tryd.prog w = .ok (173, .agg #[h]) w := by kernel_rfl
theorem methodAssignableTo (h : Value) (w : World) : (Go.method 329 172 (.agg #[h]) "AssignableTo").run Tryd.prog w = .ok (170, .agg #[h]) w := by kernel_rfl
theorem rlm (z : Sem Value) (f : TypeId → Addr → Nat → Nat → Sem Value) (v : Value) :
    ReflectliteValue.method z f #[v] = (do match ← ReflectliteValue.parts v with | none => z | some (t, a, fl) => f t a fl (fl % 32)) := rfl
theorem rls (v x : Value) : ReflectliteValue.set #[v, x] = (do
    let (some (dst, a, fl), some (src, b, _)) := (← ReflectliteValue.parts v, ← ReflectliteValue.parts x)
      | unsupported (.noEntry "extern/(internal/reflectlite.Value).Set.zeroValue")
    if fl / ReflectliteValue.flagAddr % 2 == 0 then unsupported (.noEntry "extern/(internal/reflectlite.Value).Set.unaddressable")
    let val ← loadVar src b
    if ← Rtype.directlyAssignable dst src then storeVar dst a val
    else if ← Rtype.implements dst src then
      if (← Rtype.kind src) == 20 then
        match val with
        | .nilIface => unsupported (.noEntry "extern/reflectlite: a nil value of one interface type handed on as a value of another")
        | _ => storeVar dst a val
      else storeVar dst a (.iface src val)
    else panicString ("reflectlite.Set: value of type " ++ (← Rtype.spelt src) ++ " is not assignable to type " ++ (← Rtype.spelt dst))
    pure (.tuple #[])) := rfl

/-! ### the target *api.Code -/
theorem valueOfC (t : Addr) (w : World) : (ReflectliteValue.unpack (.iface 135 (.pointer (some t)))).run Tryd.prog w = .ok (.agg #[.pointer (some ⟨7, 135, none⟩), .pointer (some ⟨w.heap.size, 0, none⟩), .int .u64 150]) (w.alloc (.cells #[.pointer (some t)] 135)) := by kernel_rfl
theorem typeC (a : Addr) (w : World) : (ReflectliteValue.methodAny (ReflectliteValue.valueError "reflectlite.Value.Type" 0) (fun t _ _ _ => ReflectliteType.toType t) #[.agg #[.pointer (some ⟨7, 135, none⟩), .pointer (some a), .int .u64 150]]).run Tryd.prog w = .ok (.iface 172 (.agg #[.pointer (some ⟨7, 135, none⟩)])) w := by kernel_rfl
theorem kindPC (w : World) : ((ReflectliteType.abiMethod fun t => (fun a : Nat => Value.int IntKind.u8 (a : Int)) <$> Rtype.kind t) #[.pointer (some ⟨7, 135, none⟩)]).run Tryd.prog w = .ok (.int .u8 22) w := by kernel_rfl
theorem kindEC (w : World) : ((ReflectliteType.abiMethod fun t => (fun a : Nat => Value.int IntKind.u8 (a : Int)) <$> Rtype.kind t) #[.pointer (some ⟨7, 94, none⟩)]).run Tryd.prog w = .ok (.int .u8 2) w := by kernel_rfl
theorem partsC (a : Addr) (w : World) : (ReflectliteValue.parts (.agg #[.pointer (some ⟨7, 135, none⟩), .pointer (some a), .int .u64 150])).run Tryd.prog w = .ok (some (135, a, 150)) w := by kernel_rfl
theorem isNilC (a p : Addr) (W : World) (ha : W.cell? a = some (.pointer (some p))) :
    (ReflectliteValue.method (ReflectliteValue.valueError "reflectlite.Value.IsNil" 0) ReflectliteValue.isNil #[.agg #[.pointer (some ⟨7, 135, none⟩), .pointer (some a), .int .u64 150]]).run Tryd.prog W = .ok (.bool false) W := by
  rw [rlm]
  simp only [Sem.run_bind, partsC, Result.andThen]
  simp [ReflectliteValue.isNil, loadVar, isAgg, underlying, Tryd.underlying135, ha, Result.andThen]
theorem elemC (w : World) : (ReflectliteType.method ReflectliteType.elem #[.agg #[.pointer (some ⟨7, 135, none⟩)]]).run Tryd.prog w = .ok (.iface 172 (.agg #[.pointer (some ⟨7, 94, none⟩)])) w := by kernel_rfl
theorem implementsC (w : World) : (ReflectliteType.relation "Implements" ReflectliteType.implements_ #[.agg #[.pointer (some ⟨7, 94, none⟩)], .iface 172 (.agg #[.pointer (some ⟨7, 47, none⟩)])]).run Tryd.prog w = .ok (.bool true) w := by kernel_rfl
theorem elemOfC (w : World) : (Rtype.elem? 135).run Tryd.prog w = .ok (some 94) w := by kernel_rfl
theorem mkC (p : Addr) (w : World) : (ReflectliteValue.mk 94 p ReflectliteValue.flagAddr).run Tryd.prog w = .ok (.agg #[.pointer (some ⟨7, 94, none⟩), .pointer (some p), .int .u64 386]) w := by kernel_rfl
theorem elemVC (a p : Addr) (W : World) (ha : W.cell? a = some (.pointer (some p))) :
    (ReflectliteValue.method (ReflectliteValue.valueError "reflectlite.Value.Elem" 0) ReflectliteValue.elem #[.agg #[.pointer (some ⟨7, 135, none⟩), .pointer (some a), .int .u64 150]]).run Tryd.prog W = .ok (.agg #[.pointer (some ⟨7, 94, none⟩), .pointer (some p), .int .u64 386]) W := by
  rw [rlm]
  simp only [Sem.run_bind, partsC, Result.andThen]
  simp [ReflectliteValue.elem, loadVar, isAgg, underlying, Tryd.underlying135, ha, Result.andThen, elemOfC, mkC]
theorem partsCa (a : Addr) (w : World) : (ReflectliteValue.parts (.agg #[.pointer (some ⟨7, 94, none⟩), .pointer (some a), .int .u64 386])).run Tryd.prog w = .ok (some (94, a, 386)) w := by kernel_rfl
theorem partsCv (a : Addr) (w : World) : (ReflectliteValue.parts (.agg #[.pointer (some ⟨7, 94, none⟩), .pointer (some a), .int .u64 130])).run Tryd.prog w = .ok (some (94, a, 130)) w := by kernel_rfl
theorem directC (w : World) : (Rtype.directlyAssignable 94 94).run Tryd.prog w = .ok true w := by kernel_rfl
theorem unpackC (c : Int) (w : World) : (ReflectliteValue.unpack (.iface 94 (.int .i64 c))).run Tryd.prog w = .ok (.agg #[.pointer (some ⟨7, 94, none⟩), .pointer (some ⟨w.heap.size, 0, none⟩), .int .u64 130]) (w.alloc (.cells #[.int .i64 c] 94)) := by kernel_rfl

/-! ### the target *api.Fault -/
theorem valueOfF (t : Addr) (w : World) : (ReflectliteValue.unpack (.iface 112 (.pointer (some t)))).run Tryd.prog w = .ok (.agg #[.pointer (some ⟨7, 112, none⟩), .pointer (some ⟨w.heap.size, 0, none⟩), .int .u64 150]) (w.alloc (.cells #[.pointer (some t)] 112)) := by kernel_rfl
theorem typeF (a : Addr) (w : World) : (ReflectliteValue.methodAny (ReflectliteValue.valueError "reflectlite.Value.Type" 0) (fun t _ _ _ => ReflectliteType.toType t) #[.agg #[.pointer (some ⟨7, 112, none⟩), .pointer (some a), .int .u64 150]]).run Tryd.prog w = .ok (.iface 172 (.agg #[.pointer (some ⟨7, 112, none⟩)])) w := by kernel_rfl
theorem kindPF (w : World) : ((ReflectliteType.abiMethod fun t => (fun a : Nat => Value.int IntKind.u8 (a : Int)) <$> Rtype.kind t) #[.pointer (some ⟨7, 112, none⟩)]).run Tryd.prog w = .ok (.int .u8 22) w := by kernel_rfl
theorem kindEF (w : World) : ((ReflectliteType.abiMethod fun t => (fun a : Nat => Value.int IntKind.u8 (a : Int)) <$> Rtype.kind t) #[.pointer (some ⟨7, 106, none⟩)]).run Tryd.prog w = .ok (.int .u8 25) w := by kernel_rfl
theorem partsF (a : Addr) (w : World) : (ReflectliteValue.parts (.agg #[.pointer (some ⟨7, 112, none⟩), .pointer (some a), .int .u64 150])).run Tryd.prog w = .ok (some (112, a, 150)) w := by kernel_rfl
theorem isNilF (a p : Addr) (W : World) (ha : W.cell? a = some (.pointer (some p))) :
    (ReflectliteValue.method (ReflectliteValue.valueError "reflectlite.Value.IsNil" 0) ReflectliteValue.isNil #[.agg #[.pointer (some ⟨7, 112, none⟩), .pointer (some a), .int .u64 150]]).run Tryd.prog W = .ok (.bool false) W := by
  rw [rlm]
  simp only [Sem.run_bind, partsF, Result.andThen]
  simp [ReflectliteValue.isNil, loadVar, isAgg, underlying, Tryd.underlying112, ha, Result.andThen]
theorem elemF (w : World) : (ReflectliteType.method ReflectliteType.elem #[.agg #[.pointer (some ⟨7, 112, none⟩)]]).run Tryd.prog w = .ok (.iface 172 (.agg #[.pointer (some ⟨7, 106, none⟩)])) w := by kernel_rfl
theorem implementsF (w : World) : (ReflectliteType.relation "Implements" ReflectliteType.implements_ #[.agg #[.pointer (some ⟨7, 106, none⟩)], .iface 172 (.agg #[.pointer (some ⟨7, 47, none⟩)])]).run Tryd.prog w = .ok (.bool true) w := by kernel_rfl
theorem elemOfF (w : World) : (Rtype.elem? 112).run Tryd.prog w = .ok (some 106) w := by kernel_rfl
theorem mkF (p : Addr) (w : World) : (ReflectliteValue.mk 106 p ReflectliteValue.flagAddr).run Tryd.prog w = .ok (.agg #[.pointer (some ⟨7, 106, none⟩), .pointer (some p), .int .u64 409]) w := by kernel_rfl
theorem elemVF (a p : Addr) (W : World) (ha : W.cell? a = some (.pointer (some p))) :
    (ReflectliteValue.method (ReflectliteValue.valueError "reflectlite.Value.Elem" 0) ReflectliteValue.elem #[.agg #[.pointer (some ⟨7, 112, none⟩), .pointer (some a), .int .u64 150]]).run Tryd.prog W = .ok (.agg #[.pointer (some ⟨7, 106, none⟩), .pointer (some p), .int .u64 409]) W := by
  rw [rlm]
  simp only [Sem.run_bind, partsF, Result.andThen]
  simp [ReflectliteValue.elem, loadVar, isAgg, underlying, Tryd.underlying112, ha, Result.andThen, elemOfF, mkF]
theorem partsFa (a : Addr) (w : World) : (ReflectliteValue.parts (.agg #[.pointer (some ⟨7, 106, none⟩), .pointer (some a), .int .u64 409])).run Tryd.prog w = .ok (some (106, a, 409)) w := by kernel_rfl
theorem partsFv (a : Addr) (w : World) : (ReflectliteValue.parts (.agg #[.pointer (some ⟨7, 106, none⟩), .pointer (some a), .int .u64 153])).run Tryd.prog w = .ok (some (106, a, 153)) w := by kernel_rfl
theorem directF (w : World) : (Rtype.directlyAssignable 106 106).run Tryd.prog w = .ok true w := by kernel_rfl
theorem unpackF (c at_ : Int) (w : World) : (ReflectliteValue.unpack (.iface 106 (.agg #[.int .i64 c, .int .i64 at_]))).run Tryd.prog w = .ok (.agg #[.pointer (some ⟨7, 106, none⟩), .pointer (some ⟨w.heap.size, 0, none⟩), .int .u64 153]) (w.alloc (.cells #[.int .i64 c, .int .i64 at_] 106)) := by kernel_rfl

/-! ### the target *fault.placed -/
theorem valueOfP (t : Addr) (w : World) : (ReflectliteValue.unpack (.iface 141 (.pointer (some t)))).run Tryd.prog w = .ok (.agg #[.pointer (some ⟨7, 141, none⟩), .pointer (some ⟨w.heap.size, 0, none⟩), .int .u64 150]) (w.alloc (.cells #[.pointer (some t)] 141)) := by kernel_rfl
theorem typeP (a : Addr) (w : World) : (ReflectliteValue.methodAny (ReflectliteValue.valueError "reflectlite.Value.Type" 0) (fun t _ _ _ => ReflectliteType.toType t) #[.agg #[.pointer (some ⟨7, 141, none⟩), .pointer (some a), .int .u64 150]]).run Tryd.prog w = .ok (.iface 172 (.agg #[.pointer (some ⟨7, 141, none⟩)])) w := by kernel_rfl
theorem kindPP (w : World) : ((ReflectliteType.abiMethod fun t => (fun a : Nat => Value.int IntKind.u8 (a : Int)) <$> Rtype.kind t) #[.pointer (some ⟨7, 141, none⟩)]).run Tryd.prog w = .ok (.int .u8 22) w := by kernel_rfl
theorem kindEP (w : World) : ((ReflectliteType.abiMethod fun t => (fun a : Nat => Value.int IntKind.u8 (a : Int)) <$> Rtype.kind t) #[.pointer (some ⟨7, 140, none⟩)]).run Tryd.prog w = .ok (.int .u8 25) w := by kernel_rfl
theorem partsP (a : Addr) (w : World) : (ReflectliteValue.parts (.agg #[.pointer (some ⟨7, 141, none⟩), .pointer (some a), .int .u64 150])).run Tryd.prog w = .ok (some (141, a, 150)) w := by kernel_rfl
theorem isNilP (a p : Addr) (W : World) (ha : W.cell? a = some (.pointer (some p))) :
    (ReflectliteValue.method (ReflectliteValue.valueError "reflectlite.Value.IsNil" 0) ReflectliteValue.isNil #[.agg #[.pointer (some ⟨7, 141, none⟩), .pointer (some a), .int .u64 150]]).run Tryd.prog W = .ok (.bool false) W := by
  rw [rlm]
  simp only [Sem.run_bind, partsP, Result.andThen]
  simp [ReflectliteValue.isNil, loadVar, isAgg, underlying, Tryd.underlying141, ha, Result.andThen]
theorem elemP (w : World) : (ReflectliteType.method ReflectliteType.elem #[.agg #[.pointer (some ⟨7, 141, none⟩)]]).run Tryd.prog w = .ok (.iface 172 (.agg #[.pointer (some ⟨7, 140, none⟩)])) w := by kernel_rfl
theorem implementsP (w : World) : (ReflectliteType.relation "Implements" ReflectliteType.implements_ #[.agg #[.pointer (some ⟨7, 140, none⟩)], .iface 172 (.agg #[.pointer (some ⟨7, 47, none⟩)])]).run Tryd.prog w = .ok (.bool true) w := by kernel_rfl
theorem elemOfP (w : World) : (Rtype.elem? 141).run Tryd.prog w = .ok (some 140) w := by kernel_rfl
theorem mkP (p : Addr) (w : World) : (ReflectliteValue.mk 140 p ReflectliteValue.flagAddr).run Tryd.prog w = .ok (.agg #[.pointer (some ⟨7, 140, none⟩), .pointer (some p), .int .u64 409]) w := by kernel_rfl
theorem elemVP (a p : Addr) (W : World) (ha : W.cell? a = some (.pointer (some p))) :
    (ReflectliteValue.method (ReflectliteValue.valueError "reflectlite.Value.Elem" 0) ReflectliteValue.elem #[.agg #[.pointer (some ⟨7, 141, none⟩), .pointer (some a), .int .u64 150]]).run Tryd.prog W = .ok (.agg #[.pointer (some ⟨7, 140, none⟩), .pointer (some p), .int .u64 409]) W := by
  rw [rlm]
  simp only [Sem.run_bind, partsP, Result.andThen]
  simp [ReflectliteValue.elem, loadVar, isAgg, underlying, Tryd.underlying141, ha, Result.andThen, elemOfP, mkP]
theorem partsPa (a : Addr) (w : World) : (ReflectliteValue.parts (.agg #[.pointer (some ⟨7, 140, none⟩), .pointer (some a), .int .u64 409])).run Tryd.prog w = .ok (some (140, a, 409)) w := by kernel_rfl
theorem partsPv (a : Addr) (w : World) : (ReflectliteValue.parts (.agg #[.pointer (some ⟨7, 140, none⟩), .pointer (some a), .int .u64 153])).run Tryd.prog w = .ok (some (140, a, 153)) w := by kernel_rfl
theorem directP (w : World) : (Rtype.directlyAssignable 140 140).run Tryd.prog w = .ok true w := by kernel_rfl
theorem unpackP (k : Int) (e : Value) (w : World) : (ReflectliteValue.unpack (.iface 140 (.agg #[.int .i64 k, e]))).run Tryd.prog w = .ok (.agg #[.pointer (some ⟨7, 140, none⟩), .pointer (some ⟨w.heap.size, 0, none⟩), .int .u64 153]) (w.alloc (.cells #[.int .i64 k, e] 140)) := by kernel_rfl
theorem typeOfC (v : Value) (w : World) : (ReflectliteType.typeOf #[.iface 94 v]).run Tryd.prog w = .ok (.iface 172 (.agg #[.pointer (some ⟨7, 94, none⟩)])) w := by kernel_rfl
theorem assignableCC (w : World) : (ReflectliteType.relation "AssignableTo" ReflectliteType.assignableTo #[.agg #[.pointer (some ⟨7, 94, none⟩)], .iface 172 (.agg #[.pointer (some ⟨7, 94, none⟩)])]).run Tryd.prog w = .ok (.bool true) w := by kernel_rfl
theorem assignableCF (w : World) : (ReflectliteType.relation "AssignableTo" ReflectliteType.assignableTo #[.agg #[.pointer (some ⟨7, 94, none⟩)], .iface 172 (.agg #[.pointer (some ⟨7, 106, none⟩)])]).run Tryd.prog w = .ok (.bool false) w := by kernel_rfl
theorem assignableCP (w : World) : (ReflectliteType.relation "AssignableTo" ReflectliteType.assignableTo #[.agg #[.pointer (some ⟨7, 94, none⟩)], .iface 172 (.agg #[.pointer (some ⟨7, 140, none⟩)])]).run Tryd.prog w = .ok (.bool false) w := by kernel_rfl
theorem typeOfF (v : Value) (w : World) : (ReflectliteType.typeOf #[.iface 106 v]).run Tryd.prog w = .ok (.iface 172 (.agg #[.pointer (some ⟨7, 106, none⟩)])) w := by kernel_rfl
theorem assignableFC (w : World) : (ReflectliteType.relation "AssignableTo" ReflectliteType.assignableTo #[.agg #[.pointer (some ⟨7, 106, none⟩)], .iface 172 (.agg #[.pointer (some ⟨7, 94, none⟩)])]).run Tryd.prog w = .ok (.bool false) w := by kernel_rfl
theorem assignableFF (w : World) : (ReflectliteType.relation "AssignableTo" ReflectliteType.assignableTo #[.agg #[.pointer (some ⟨7, 106, none⟩)], .iface 172 (.agg #[.pointer (some ⟨7, 106, none⟩)])]).run Tryd.prog w = .ok (.bool true) w := by kernel_rfl
theorem assignableFP (w : World) : (ReflectliteType.relation "AssignableTo" ReflectliteType.assignableTo #[.agg #[.pointer (some ⟨7, 106, none⟩)], .iface 172 (.agg #[.pointer (some ⟨7, 140, none⟩)])]).run Tryd.prog w = .ok (.bool false) w := by kernel_rfl
theorem typeOfP (v : Value) (w : World) : (ReflectliteType.typeOf #[.iface 140 v]).run Tryd.prog w = .ok (.iface 172 (.agg #[.pointer (some ⟨7, 140, none⟩)])) w := by kernel_rfl
theorem assignablePC (w : World) : (ReflectliteType.relation "AssignableTo" ReflectliteType.assignableTo #[.agg #[.pointer (some ⟨7, 140, none⟩)], .iface 172 (.agg #[.pointer (some ⟨7, 94, none⟩)])]).run Tryd.prog w = .ok (.bool false) w := by kernel_rfl
theorem assignablePF (w : World) : (ReflectliteType.relation "AssignableTo" ReflectliteType.assignableTo #[.agg #[.pointer (some ⟨7, 140, none⟩)], .iface 172 (.agg #[.pointer (some ⟨7, 106, none⟩)])]).run Tryd.prog w = .ok (.bool false) w := by kernel_rfl
theorem assignablePP (w : World) : (ReflectliteType.relation "AssignableTo" ReflectliteType.assignableTo #[.agg #[.pointer (some ⟨7, 140, none⟩)], .iface 172 (.agg #[.pointer (some ⟨7, 140, none⟩)])]).run Tryd.prog w = .ok (.bool true) w := by kernel_rfl
theorem typeOfO (v : Value) (w : World) : (ReflectliteType.typeOf #[.iface 148 v]).run Tryd.prog w = .ok (.iface 172 (.agg #[.pointer (some ⟨7, 148, none⟩)])) w := by kernel_rfl
theorem assignableOC (w : World) : (ReflectliteType.relation "AssignableTo" ReflectliteType.assignableTo #[.agg #[.pointer (some ⟨7, 148, none⟩)], .iface 172 (.agg #[.pointer (some ⟨7, 94, none⟩)])]).run Tryd.prog w = .ok (.bool false) w := by kernel_rfl
theorem assignableOF (w : World) : (ReflectliteType.relation "AssignableTo" ReflectliteType.assignableTo #[.agg #[.pointer (some ⟨7, 148, none⟩)], .iface 172 (.agg #[.pointer (some ⟨7, 106, none⟩)])]).run Tryd.prog w = .ok (.bool false) w := by kernel_rfl
theorem assignableOP (w : World) : (ReflectliteType.relation "AssignableTo" ReflectliteType.assignableTo #[.agg #[.pointer (some ⟨7, 148, none⟩)], .iface 172 (.agg #[.pointer (some ⟨7, 140, none⟩)])]).run Tryd.prog w = .ok (.bool false) w := by kernel_rfl

/-- What the variable errors.errorType holds. -/
def ErrType (w : World) : Prop := w.cell? ⟨3, 0, none⟩ = some (.iface 172 (.agg #[.pointer (some ⟨7, 47, none⟩)]))
theorem ErrType.lt {w : World} (h : ErrType w) : 3 < w.heap.size := World.block_lt_of_cell? w _ h
theorem ErrType.below {w w' : World} (h : ErrType w) (hb : Below w.heap.size w w') : ErrType w' := (hb.cell (p := ⟨3, 0, none⟩) h.lt).trans h
end Go.Proofs.YtcegipkhmibdeaaDoor
