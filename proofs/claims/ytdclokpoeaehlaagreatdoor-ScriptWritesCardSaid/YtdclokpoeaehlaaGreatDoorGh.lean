/- As, Err: together in one text. -/
import Derived.Test.YtdclokpoeaehlaaGreatDoorGa
import Derived.Test.YtdclokpoeaehlaaGreatDoorProg
import Derived.LaidEql
import Derived.Stop.Asserts
import Derived.RowKitTokens
import Derived.Deep.LoopGhost
/- errors.As at the targets *api.Code, *api.Fault and *fault.placed: closed facts on internal/reflectlite's entries. -/
namespace Go.Proofs.YtdclokpoeaehlaaGreatDoor
set_option linter.all false
open Go.RowKit Go.Extern.Stop Go.Stop Go.Extern

theorem methodKind (h : Value) (w : World) : (Go.method 319 149 (.agg #[h]) "Kind").run Tryz.prog w = .ok (150, h) w := by kernel_rfl
theorem methodElem (h : Value) (w : World) : (Go.method 319 149 (.agg #[h]) "Elem").run Tryz.prog w = .ok (169, .agg #[h]) w := by kernel_rfl
theorem methodImplements (h : Value) (w : World) : (Go.method 319 149 (.agg #[h]) "Implements").run Tryz.prog w = .ok (170, .agg #[h]) w := by kernel_rfl
theorem methodAssignableTo (h : Value) (w : World) : (Go.method 319 149 (.agg #[h]) "AssignableTo").run Tryz.prog w = .ok (167, .agg #[h]) w := by kernel_rfl
theorem rlm (z : Sem Value) (f : TypeId → Addr → Nat → Nat → Sem Value) (v : Value) :
    ReflectliteValue.method z f #[v] = (do match ← ReflectliteValue.parts v with | none => z | some (t, a, fl) => f t a fl (fl % 32)) := rfl
theorem rls (v x : Value) : ReflectliteValue.set #[v, x] = (do
    let (some (dst, a, fl), some (src, b, _)) := (← ReflectliteValue.parts v, ← ReflectliteValue.parts x)
      | unsupported (.noEntry "extern/(internal/reflectlite.Value).Set.zeroValue")
    if fl / ReflectliteValue.flagAddr % 2 == 0 then unsupported (.noEntry "extern/(internal/reflectlite.Value).Set.unaddressable")
    let val ← loadVar src b
    if ← Rtype.directlyAssignable dst src then storeVar dst a val
    else if ← Rtype.implements dst src then
      if (← Rtype.kind src) == 20 then
        match val with
        | .nilIface => unsupported (.noEntry "extern/reflectlite: a nil value of one interface type handed on as a value of another")
        | _ => storeVar dst a val
      else storeVar dst a (.iface src val)
    else panicString ("reflectlite.Set: value of type " ++ (← Rtype.spelt src) ++ " is not assignable to type " ++ (← Rtype.spelt dst))
    pure (.tuple #[])) := rfl

/-! ### the target *api.Code -/
theorem valueOfC (t : Addr) (w : World) : (ReflectliteValue.unpack (.iface 116 (.pointer (some t)))).run Tryz.prog w = .ok (.agg #[.pointer (some ⟨14, 116, none⟩), .pointer (some ⟨w.heap.size, 0, none⟩), .int .u64 150]) (w.alloc (.cells #[.pointer (some t)] 116)) := by kernel_rfl
theorem typeC (a : Addr) (w : World) : (ReflectliteValue.methodAny (ReflectliteValue.valueError "reflectlite.Value.Type" 0) (fun t _ _ _ => ReflectliteType.toType t) #[.agg #[.pointer (some ⟨14, 116, none⟩), .pointer (some a), .int .u64 150]]).run Tryz.prog w = .ok (.iface 149 (.agg #[.pointer (some ⟨14, 116, none⟩)])) w := by kernel_rfl
theorem kindPC (w : World) : ((ReflectliteType.abiMethod fun t => (fun a : Nat => Value.int IntKind.u8 (a : Int)) <$> Rtype.kind t) #[.pointer (some ⟨14, 116, none⟩)]).run Tryz.prog w = .ok (.int .u8 22) w := by kernel_rfl
theorem kindEC (w : World) : ((ReflectliteType.abiMethod fun t => (fun a : Nat => Value.int IntKind.u8 (a : Int)) <$> Rtype.kind t) #[.pointer (some ⟨14, 46, none⟩)]).run Tryz.prog w = .ok (.int .u8 2) w := by kernel_rfl
theorem partsC (a : Addr) (w : World) : (ReflectliteValue.parts (.agg #[.pointer (some ⟨14, 116, none⟩), .pointer (some a), .int .u64 150])).run Tryz.prog w = .ok (some (116, a, 150)) w := by kernel_rfl
theorem isNilC (a p : Addr) (W : World) (ha : W.cell? a = some (.pointer (some p))) :
    (ReflectliteValue.method (ReflectliteValue.valueError "reflectlite.Value.IsNil" 0) ReflectliteValue.isNil #[.agg #[.pointer (some ⟨14, 116, none⟩), .pointer (some a), .int .u64 150]]).run Tryz.prog W = .ok (.bool false) W := by
  rw [rlm]
  simp only [Sem.run_bind, partsC, Result.andThen]
  simp [ReflectliteValue.isNil, loadVar, isAgg, underlying, Tryz.underlying116, ha, Result.andThen]
theorem elemC (w : World) : (ReflectliteType.method ReflectliteType.elem #[.agg #[.pointer (some ⟨14, 116, none⟩)]]).run Tryz.prog w = .ok (.iface 149 (.agg #[.pointer (some ⟨14, 46, none⟩)])) w := by kernel_rfl
theorem implementsC (w : World) : (ReflectliteType.relation "Implements" ReflectliteType.implements_ #[.agg #[.pointer (some ⟨14, 46, none⟩)], .iface 149 (.agg #[.pointer (some ⟨14, 44, none⟩)])]).run Tryz.prog w = .ok (.bool true) w := by kernel_rfl
theorem elemOfC (w : World) : (Rtype.elem? 116).run Tryz.prog w = .ok (some 46) w := by kernel_rfl
theorem mkC (p : Addr) (w : World) : (ReflectliteValue.mk 46 p ReflectliteValue.flagAddr).run Tryz.prog w = .ok (.agg #[.pointer (some ⟨14, 46, none⟩), .pointer (some p), .int .u64 386]) w := by kernel_rfl
theorem elemVC (a p : Addr) (W : World) (ha : W.cell? a = some (.pointer (some p))) :
    (ReflectliteValue.method (ReflectliteValue.valueError "reflectlite.Value.Elem" 0) ReflectliteValue.elem #[.agg #[.pointer (some ⟨14, 116, none⟩), .pointer (some a), .int .u64 150]]).run Tryz.prog W = .ok (.agg #[.pointer (some ⟨14, 46, none⟩), .pointer (some p), .int .u64 386]) W := by
  rw [rlm]
  simp only [Sem.run_bind, partsC, Result.andThen]
  simp [ReflectliteValue.elem, loadVar, isAgg, underlying, Tryz.underlying116, ha, Result.andThen, elemOfC, mkC]
theorem partsCa (a : Addr) (w : World) : (ReflectliteValue.parts (.agg #[.pointer (some ⟨14, 46, none⟩), .pointer (some a), .int .u64 386])).run Tryz.prog w = .ok (some (46, a, 386)) w := by kernel_rfl
theorem partsCv (a : Addr) (w : World) : (ReflectliteValue.parts (.agg #[.pointer (some ⟨14, 46, none⟩), .pointer (some a), .int .u64 130])).run Tryz.prog w = .ok (some (46, a, 130)) w := by kernel_rfl
theorem directC (w : World) : (Rtype.directlyAssignable 46 46).run Tryz.prog w = .ok true w := by kernel_rfl
theorem unpackC (c : Int) (w : World) : (ReflectliteValue.unpack (.iface 46 (.int .i64 c))).run Tryz.prog w = .ok (.agg #[.pointer (some ⟨14, 46, none⟩), .pointer (some ⟨w.heap.size, 0, none⟩), .int .u64 130]) (w.alloc (.cells #[.int .i64 c] 46)) := by kernel_rfl

/-! ### the target *api.Fault -/
theorem valueOfF (t : Addr) (w : World) : (ReflectliteValue.unpack (.iface 119 (.pointer (some t)))).run Tryz.prog w = .ok (.agg #[.pointer (some ⟨14, 119, none⟩), .pointer (some ⟨w.heap.size, 0, none⟩), .int .u64 150]) (w.alloc (.cells #[.pointer (some t)] 119)) := by kernel_rfl
theorem typeF (a : Addr) (w : World) : (ReflectliteValue.methodAny (ReflectliteValue.valueError "reflectlite.Value.Type" 0) (fun t _ _ _ => ReflectliteType.toType t) #[.agg #[.pointer (some ⟨14, 119, none⟩), .pointer (some a), .int .u64 150]]).run Tryz.prog w = .ok (.iface 149 (.agg #[.pointer (some ⟨14, 119, none⟩)])) w := by kernel_rfl
theorem kindPF (w : World) : ((ReflectliteType.abiMethod fun t => (fun a : Nat => Value.int IntKind.u8 (a : Int)) <$> Rtype.kind t) #[.pointer (some ⟨14, 119, none⟩)]).run Tryz.prog w = .ok (.int .u8 22) w := by kernel_rfl
theorem kindEF (w : World) : ((ReflectliteType.abiMethod fun t => (fun a : Nat => Value.int IntKind.u8 (a : Int)) <$> Rtype.kind t) #[.pointer (some ⟨14, 113, none⟩)]).run Tryz.prog w = .ok (.int .u8 25) w := by kernel_rfl
theorem partsF (a : Addr) (w : World) : (ReflectliteValue.parts (.agg #[.pointer (some ⟨14, 119, none⟩), .pointer (some a), .int .u64 150])).run Tryz.prog w = .ok (some (119, a, 150)) w := by kernel_rfl
theorem isNilF (a p : Addr) (W : World) (ha : W.cell? a = some (.pointer (some p))) :
    (ReflectliteValue.method (ReflectliteValue.valueError "reflectlite.Value.IsNil" 0) ReflectliteValue.isNil #[.agg #[.pointer (some ⟨14, 119, none⟩), .pointer (some a), .int .u64 150]]).run Tryz.prog W = .ok (.bool false) W := by
  rw [rlm]
  simp only [Sem.run_bind, partsF, Result.andThen]
  simp [ReflectliteValue.isNil, loadVar, isAgg, underlying, Tryz.underlying119, ha, Result.andThen]
theorem elemF (w : World) : (ReflectliteType.method ReflectliteType.elem #[.agg #[.pointer (some ⟨14, 119, none⟩)]]).run Tryz.prog w = .ok (.iface 149 (.agg #[.pointer (some ⟨14, 113, none⟩)])) w := by kernel_rfl
theorem implementsF (w : World) : (ReflectliteType.relation "Implements" ReflectliteType.implements_ #[.agg #[.pointer (some ⟨14, 113, none⟩)], .iface 149 (.agg #[.pointer (some ⟨14, 44, none⟩)])]).run Tryz.prog w = .ok (.bool true) w := by kernel_rfl
theorem elemOfF (w : World) : (Rtype.elem? 119).run Tryz.prog w = .ok (some 113) w := by kernel_rfl
theorem mkF (p : Addr) (w : World) : (ReflectliteValue.mk 113 p ReflectliteValue.flagAddr).run Tryz.prog w = .ok (.agg #[.pointer (some ⟨14, 113, none⟩), .pointer (some p), .int .u64 409]) w := by kernel_rfl
theorem elemVF (a p : Addr) (W : World) (ha : W.cell? a = some (.pointer (some p))) :
    (ReflectliteValue.method (ReflectliteValue.valueError "reflectlite.Value.Elem" 0) ReflectliteValue.elem #[.agg #[.pointer (some ⟨14, 119, none⟩), .pointer (some a), .int .u64 150]]).run Tryz.prog W = .ok (.agg #[.pointer (some ⟨14, 113, none⟩), .pointer (some p), .int .u64 409]) W := by
  rw [rlm]
  simp only [Sem.run_bind, partsF, Result.andThen]
  simp [ReflectliteValue.elem, loadVar, isAgg, underlying, Tryz.underlying119, ha, Result.andThen, elemOfF, mkF]
theorem partsFa (a : Addr) (w : World) : (ReflectliteValue.parts (.agg #[.pointer (some ⟨14, 113, none⟩), .pointer (some a), .int .u64 409])).run Tryz.prog w = .ok (some (113, a, 409)) w := by kernel_rfl
theorem partsFv (a : Addr) (w : World) : (ReflectliteValue.parts (.agg #[.pointer (some ⟨14, 113, none⟩), .pointer (some a), .int .u64 153])).run Tryz.prog w = .ok (some (113, a, 153)) w := by kernel_rfl
theorem directF (w : World) : (Rtype.directlyAssignable 113 113).run Tryz.prog w = .ok true w := by kernel_rfl
theorem unpackF (c at_ : Int) (w : World) : (ReflectliteValue.unpack (.iface 113 (.agg #[.int .i64 c, .int .i64 at_]))).run Tryz.prog w = .ok (.agg #[.pointer (some ⟨14, 113, none⟩), .pointer (some ⟨w.heap.size, 0, none⟩), .int .u64 153]) (w.alloc (.cells #[.int .i64 c, .int .i64 at_] 113)) := by kernel_rfl

/-! ### the target *fault.placed -/
theorem kindEP (w : World) : ((ReflectliteType.abiMethod fun t => (fun a : Nat => Value.int IntKind.u8 (a : Int)) <$> Rtype.kind t) #[.pointer (some ⟨14, 88, none⟩)]).run Tryz.prog w = .ok (.int .u8 25) w := by kernel_rfl
theorem implementsP (w : World) : (ReflectliteType.relation "Implements" ReflectliteType.implements_ #[.agg #[.pointer (some ⟨14, 88, none⟩)], .iface 149 (.agg #[.pointer (some ⟨14, 44, none⟩)])]).run Tryz.prog w = .ok (.bool true) w := by kernel_rfl
theorem mkP (p : Addr) (w : World) : (ReflectliteValue.mk 88 p ReflectliteValue.flagAddr).run Tryz.prog w = .ok (.agg #[.pointer (some ⟨14, 88, none⟩), .pointer (some p), .int .u64 409]) w := by kernel_rfl
theorem partsPa (a : Addr) (w : World) : (ReflectliteValue.parts (.agg #[.pointer (some ⟨14, 88, none⟩), .pointer (some a), .int .u64 409])).run Tryz.prog w = .ok (some (88, a, 409)) w := by kernel_rfl
theorem partsPv (a : Addr) (w : World) : (ReflectliteValue.parts (.agg #[.pointer (some ⟨14, 88, none⟩), .pointer (some a), .int .u64 153])).run Tryz.prog w = .ok (some (88, a, 153)) w := by kernel_rfl
theorem directP (w : World) : (Rtype.directlyAssignable 88 88).run Tryz.prog w = .ok true w := by kernel_rfl
theorem unpackP (k : Int) (e : Value) (w : World) : (ReflectliteValue.unpack (.iface 88 (.agg #[.int .i64 k, e]))).run Tryz.prog w = .ok (.agg #[.pointer (some ⟨14, 88, none⟩), .pointer (some ⟨w.heap.size, 0, none⟩), .int .u64 153]) (w.alloc (.cells #[.int .i64 k, e] 88)) := by kernel_rfl
theorem typeOfC (v : Value) (w : World) : (ReflectliteType.typeOf #[.iface 46 v]).run Tryz.prog w = .ok (.iface 149 (.agg #[.pointer (some ⟨14, 46, none⟩)])) w := by kernel_rfl
theorem assignableCC (w : World) : (ReflectliteType.relation "AssignableTo" ReflectliteType.assignableTo #[.agg #[.pointer (some ⟨14, 46, none⟩)], .iface 149 (.agg #[.pointer (some ⟨14, 46, none⟩)])]).run Tryz.prog w = .ok (.bool true) w := by kernel_rfl
theorem assignableCF (w : World) : (ReflectliteType.relation "AssignableTo" ReflectliteType.assignableTo #[.agg #[.pointer (some ⟨14, 46, none⟩)], .iface 149 (.agg #[.pointer (some ⟨14, 113, none⟩)])]).run Tryz.prog w = .ok (.bool false) w := by kernel_rfl
theorem assignableCP (w : World) : (ReflectliteType.relation "AssignableTo" ReflectliteType.assignableTo #[.agg #[.pointer (some ⟨14, 46, none⟩)], .iface 149 (.agg #[.pointer (some ⟨14, 88, none⟩)])]).run Tryz.prog w = .ok (.bool false) w := by kernel_rfl
theorem typeOfF (v : Value) (w : World) : (ReflectliteType.typeOf #[.iface 113 v]).run Tryz.prog w = .ok (.iface 149 (.agg #[.pointer (some ⟨14, 113, none⟩)])) w := by kernel_rfl
theorem assignableFC (w : World) : (ReflectliteType.relation "AssignableTo" ReflectliteType.assignableTo #[.agg #[.pointer (some ⟨14, 113, none⟩)], .iface 149 (.agg #[.pointer (some ⟨14, 46, none⟩)])]).run Tryz.prog w = .ok (.bool false) w := by kernel_rfl
theorem assignableFF (w : World) : (ReflectliteType.relation "AssignableTo" ReflectliteType.assignableTo #[.agg #[.pointer (some ⟨14, 113, none⟩)], .iface 149 (.agg #[.pointer (some ⟨14, 113, none⟩)])]).run Tryz.prog w = .ok (.bool true) w := by kernel_rfl
theorem assignableFP (w : World) : (ReflectliteType.relation "AssignableTo" ReflectliteType.assignableTo #[.agg #[.pointer (some ⟨14, 113, none⟩)], .iface 149 (.agg #[.pointer (some ⟨14, 88, none⟩)])]).run Tryz.prog w = .ok (.bool false) w := by kernel_rfl
theorem typeOfP (v : Value) (w : World) : (ReflectliteType.typeOf #[.iface 88 v]).run Tryz.prog w = .ok (.iface 149 (.agg #[.pointer (some ⟨14, 88, none⟩)])) w := by kernel_rfl
theorem assignablePC (w : World) : (ReflectliteType.relation "AssignableTo" ReflectliteType.assignableTo #[.agg #[.pointer (some ⟨14, 88, none⟩)], .iface 149 (.agg #[.pointer (some ⟨14, 46, none⟩)])]).run Tryz.prog w = .ok (.bool false) w := by kernel_rfl
theorem assignablePF (w : World) : (ReflectliteType.relation "AssignableTo" ReflectliteType.assignableTo #[.agg #[.pointer (some ⟨14, 88, none⟩)], .iface 149 (.agg #[.pointer (some ⟨14, 113, none⟩)])]).run Tryz.prog w = .ok (.bool false) w := by kernel_rfl
theorem assignablePP (w : World) : (ReflectliteType.relation "AssignableTo" ReflectliteType.assignableTo #[.agg #[.pointer (some ⟨14, 88, none⟩)], .iface 149 (.agg #[.pointer (some ⟨14, 88, none⟩)])]).run Tryz.prog w = .ok (.bool true) w := by kernel_rfl
theorem typeOfO (v : Value) (w : World) : (ReflectliteType.typeOf #[.iface 89 v]).run Tryz.prog w = .ok (.iface 149 (.agg #[.pointer (some ⟨14, 89, none⟩)])) w := by kernel_rfl
theorem assignableOC (w : World) : (ReflectliteType.relation "AssignableTo" ReflectliteType.assignableTo #[.agg #[.pointer (some ⟨14, 89, none⟩)], .iface 149 (.agg #[.pointer (some ⟨14, 46, none⟩)])]).run Tryz.prog w = .ok (.bool false) w := by kernel_rfl
theorem assignableOF (w : World) : (ReflectliteType.relation "AssignableTo" ReflectliteType.assignableTo #[.agg #[.pointer (some ⟨14, 89, none⟩)], .iface 149 (.agg #[.pointer (some ⟨14, 113, none⟩)])]).run Tryz.prog w = .ok (.bool false) w := by kernel_rfl
theorem assignableOP (w : World) : (ReflectliteType.relation "AssignableTo" ReflectliteType.assignableTo #[.agg #[.pointer (some ⟨14, 89, none⟩)], .iface 149 (.agg #[.pointer (some ⟨14, 88, none⟩)])]).run Tryz.prog w = .ok (.bool false) w := by kernel_rfl

/-- What the variable errors.errorType holds. -/
def ErrType (w : World) : Prop := w.cell? ⟨5, 0, none⟩ = some (.iface 149 (.agg #[.pointer (some ⟨14, 44, none⟩)]))
theorem ErrType.lt {w : World} (h : ErrType w) : 5 < w.heap.size := World.block_lt_of_cell? w _ h
theorem ErrType.below {w w' : World} (h : ErrType w) (hb : Below w.heap.size w w') : ErrType w' := (hb.cell (p := ⟨5, 0, none⟩) h.lt).trans h
end Go.Proofs.YtdclokpoeaehlaaGreatDoor
/- Errors as plain values; the small functions that make them. -/
namespace Go.Proofs.YtdclokpoeaehlaaGreatDoor
set_option linter.all false
open Go.RowKit

/-- An error that this program can make: a code, a fault, another one, or one that is wrapped. -/
inductive EV where
  | code (c : Int)
  | fault (c at_ : Int)
  | other (a : Addr)
  | placed (k : Int) (e : EV)
def EV.val : EV → Value
  | .code c => .iface 46 (.int .i64 c)
  | .fault c a => .iface 113 (.agg #[.int .i64 c, .int .i64 a])
  | .other p => .iface 89 (.pointer (some p))
  | .placed k e => .iface 88 (.agg #[.int .i64 k, e.val])
def EV.depth : EV → Nat
  | .code _ => 0
  | .fault _ _ => 1
  | .other _ => 0
  | .placed _ e => e.depth + 1
/-- The code, the fault, the place that errors.As finds. -/
def EV.asC : EV → Option Int
  | .code c => some c
  | .fault c _ => some c
  | .other _ => none
  | .placed _ e => e.asC
def EV.asF : EV → Option (Int × Int)
  | .code _ => none
  | .fault c a => some (c, a)
  | .other _ => none
  | .placed _ e => e.asF
def EV.asP : EV → Option (Int × EV)
  | .placed k e => some (k, e)
  | _ => none
theorem EV.iface (e : EV) : ∃ t v, e.val = .iface t v := by cases e <;> exact ⟨_, _, rfl⟩
/-- An error or none. -/
def errV : Option EV → Value
  | none => .nilIface
  | some e => e.val
set_option maxRecDepth 100000 in
theorem faultNew_any (c at_ : Int) (w : World) : Calls Tryz.prog 45 #[.int .i64 c, .int .i64 at_] w fun e w' => e = .returned (.iface 113 (.agg #[.int .i64 c, .int .i64 at_])) ∧ w = w' := by
  go_enter Tryz.func45, Tryz.ntmps45
  go_wp2
  go_ret
  exact ⟨rfl, rfl⟩
set_option maxRecDepth 100000 in
theorem faultIn_any (k : Int) (e : Option EV) (w : World) : Calls Tryz.prog 30 #[.int .i64 k, errV e] w fun x w' => x = .returned (errV (e.map (EV.placed k))) ∧ w = w' := by
  cases e with
  | none =>
    show Calls Tryz.prog 30 #[.int .i64 k, .nilIface] w _
    go_enter Tryz.func30, Tryz.ntmps30
    go_wp2
    go_ret
    exact ⟨rfl, rfl⟩
  | some e =>
    have hr : errV (Option.map (EV.placed k) (some e)) = .iface 88 (.agg #[.int .i64 k, e.val]) := rfl
    rw [hr]
    show Calls Tryz.prog 30 #[.int .i64 k, e.val] w _
    obtain ⟨t, v, he⟩ := e.iface
    rw [he]
    clear he hr
    go_enter Tryz.func30, Tryz.ntmps30
    go_wp2
    go_ret
    exact ⟨rfl, rfl⟩
end Go.Proofs.YtdclokpoeaehlaaGreatDoor
