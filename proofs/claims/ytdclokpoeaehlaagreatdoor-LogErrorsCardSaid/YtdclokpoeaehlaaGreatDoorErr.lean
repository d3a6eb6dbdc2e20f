/- Errors as plain values; the small functions that make them. -/
import Derived.Test.YtdclokpoeaehlaaGreatDoorKit
import Derived.Test.YtdclokpoeaehlaaGreatDoorProg
namespace Go.Proofs.YtdclokpoeaehlaaGreatDoor
set_option linter.all false
open Go.RowKit

/-- An error that this program can make: a code, a fault, another one, or one that is wrapped. -/
inductive EV where
  | code (c : Int)
  | fault (c at_ : Int)
  | other (a : Addr)
  | placed (k : Int) (e : EV)
def EV.val : EV → Value
  | .code c => .iface 46 (.int .i64 c)
  | .fault c a => .iface 113 (.agg #[.int .i64 c, .int .i64 a])
  | .other p => .iface 89 (.pointer (some p))
  | .placed k e => .iface 88 (.agg #[.int .i64 k, e.val])
def EV.depth : EV → Nat
  | .code _ => 0
  | .fault _ _ => 1
  | .other _ => 0
  | .placed _ e => e.depth + 1
/-- The code, the fault, the place that errors.As finds. -/
def EV.asC : EV → Option Int
  | .code c => some c
  | .fault c _ => some c
  | .other _ => none
  | .placed _ e => e.asC
def EV.asF : EV → Option (Int × Int)
  | .code _ => none
  | .fault c a => some (c, a)
  | .other _ => none
  | .placed _ e => e.asF
def EV.asP : EV → Option (Int × EV)
  | .placed k e => some (k, e)
  | _ => none
theorem EV.iface (e : EV) : ∃ t v, e.val = .iface t v := by cases e <;> exact ⟨_, _, rfl⟩
/-- An error or none. -/
def errV : Option EV → Value
  | none => .nilIface
  | some e => e.val
set_option maxRecDepth 100000 in
theorem faultNew_any (c at_ : Int) (w : World) : Calls Tryz.prog 45 #[.int .i64 c, .int .i64 at_] w fun e w' => e = .returned (.iface 113 (.agg #[.int .i64 c, .int .i64 at_])) ∧ w = w' := by
  go_enter Tryz.func45, Tryz.ntmps45
  go_wp2
  go_ret
  exact ⟨rfl, rfl⟩
set_option maxRecDepth 100000 in
theorem faultIn_any (k : Int) (e : Option EV) (w : World) : Calls Tryz.prog 30 #[.int .i64 k, errV e] w fun x w' => x = .returned (errV (e.map (EV.placed k))) ∧ w = w' := by
  cases e with
  | none =>
    show Calls Tryz.prog 30 #[.int .i64 k, .nilIface] w _
    go_enter Tryz.func30, Tryz.ntmps30
    go_wp2
    go_ret
    exact ⟨rfl, rfl⟩
  | some e =>
    have hr : errV (Option.map (EV.placed k) (some e)) = .iface 88 (.agg #[.int .i64 k, e.val]) := rfl
    rw [hr]
    show Calls Tryz.prog 30 #[.int .i64 k, e.val] w _
    obtain ⟨t, v, he⟩ := e.iface
    rw [he]
    clear he hr
    go_enter Tryz.func30, Tryz.ntmps30
    go_wp2
    go_ret
    exact ⟨rfl, rfl⟩
end Go.Proofs.YtdclokpoeaehlaaGreatDoor
