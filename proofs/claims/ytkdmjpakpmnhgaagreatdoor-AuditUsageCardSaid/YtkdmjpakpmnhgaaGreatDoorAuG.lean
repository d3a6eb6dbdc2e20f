/- hammockref01.Of, Plus, Value of numbers that are neither negative nor great. -/
import Derived.Test.YtkdmjpakpmnhgaaGreatDoorKit
import Derived.Test.YtkdmjpakpmnhgaaGreatDoorProg
import Derived.Laws.Bits128
namespace Go.Proofs.YtkdmjpakpmnhgaaGreatDoor
set_option linter.all false
open Go.RowKit

theorem i64_and32 (n : Int) : bits .and .i64 n 4294967295 = n % 4294967296 := by
  have hm : (BitVec.ofInt 64 4294967295).toNat = 2 ^ 32 - 1 := by decide
  have key : (BitVec.ofInt 64 n &&& BitVec.ofInt 64 4294967295).toNat = (n % ((2 ^ 64 : Nat) : Int)).toNat % 2 ^ 32 := by
    rw [BitVec.toNat_and, BitVec.toNat_ofInt, hm, Nat.and_two_pow_sub_one_eq_mod]
  show IntKind.i64.wrap ((BitVec.ofInt 64 n &&& BitVec.ofInt 64 4294967295).toNat : Nat) = n % 4294967296
  rw [key, IntKind.wrap_i64]
  omega
/-- A number of two words. -/
abbrev numV (h l : Int) : Value := .agg #[.int .i64 h, .int .i64 l]
abbrev numOf (n : Int) : Value := numV (n / 4294967296) (n % 4294967296)
set_option maxRecDepth 100000 in
theorem of_any (n : Int) (w : World) (h0 : 0 ≤ n) (h1 : n ≤ 288230376151711744) :
    Calls Tryz.prog 19 #[.int .i64 n] w fun e w' => e = .returned (numOf n) ∧ Below w.heap.size w w' := by
  have ha := i64_and32 n
  go_enter Tryz.func19, Tryz.ntmps19
  go_wp2
  refine bodyPost_ret (v := numOf n) ?_ rfl ⟨rfl, ((From.refl w).alloc _).out⟩
  simp only [results, Tryz.results19]
  go_simp
set_option maxRecDepth 100000 in
theorem plus_any (m n : Int) (w : World) (h0 : 0 ≤ n) (h1 : n ≤ 288230376151711744) (g0 : 0 ≤ m) (g1 : m ≤ 288230376151711744) :
    Calls Tryz.prog 20 #[numOf m, numOf n] w fun e w' => e = .returned (numOf (m + n)) ∧ Below w.heap.size w w' := by
  have ha := i64_and32 (m % 4294967296 + n % 4294967296)
  have q1 : (m + n) / 4294967296 = m / 4294967296 + n / 4294967296 + (m % 4294967296 + n % 4294967296) / 4294967296 := by omega
  have q2 : (m + n) % 4294967296 = (m % 4294967296 + n % 4294967296) % 4294967296 := by omega
  rw [show numOf (m + n) = numV (m / 4294967296 + n / 4294967296 + (m % 4294967296 + n % 4294967296) / 4294967296) ((m % 4294967296 + n % 4294967296) % 4294967296) by unfold numOf; rw [q1, q2]]
  clear q1 q2
  go_enter Tryz.func20, Tryz.ntmps20
  go_wp2
  refine bodyPost_ret (v := numV (m / 4294967296 + n / 4294967296 + (m % 4294967296 + n % 4294967296) / 4294967296) ((m % 4294967296 + n % 4294967296) % 4294967296)) ?_ rfl ⟨rfl, ((((From.refl w).alloc _).alloc _).alloc _).out⟩
  simp only [results, Tryz.results20]
  go_simp
set_option maxRecDepth 100000 in
theorem nvalue_any (n : Int) (w : World) (h0 : 0 ≤ n) (h1 : n ≤ 288230376151711744) :
    Calls Tryz.prog 21 #[numOf n] w fun e w' => e = .returned (.tuple #[.int .i64 n, .bool true]) ∧ Below w.heap.size w w' := by
  have e1 : ¬ (n / 4294967296 < -2147483648) := by omega
  have e2 : ¬ (2147483647 < n / 4294967296) := by omega
  go_enter Tryz.func21, Tryz.ntmps21
  go_wp2
  go_ret2
  exact ⟨by rw [show n / 4294967296 * 4294967296 + n % 4294967296 = n by omega]; rfl, ((From.refl w).alloc _).out⟩
end Go.Proofs.YtkdmjpakpmnhgaaGreatDoor
