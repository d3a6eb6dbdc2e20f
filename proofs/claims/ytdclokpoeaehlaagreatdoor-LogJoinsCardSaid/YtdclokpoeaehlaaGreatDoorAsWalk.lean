/- errors.As and errors.as: the walk over a chain of errors. -/
import Derived.Test.YtdclokpoeaehlaaGreatDoorAs
import Derived.Test.YtdclokpoeaehlaaGreatDoorErr
namespace Go.Proofs.YtdclokpoeaehlaaGreatDoor
set_option linter.all false
open Go.RowKit Go.Extern.Stop Go.Stop Go.Extern

theorem setC (tb nb : Nat) (c : Int) (old : Value) (W : World) (hb : W.cell? ⟨nb, 0, none⟩ = some (.int .i64 c)) (ht : W.cell? ⟨tb, 0, none⟩ = some old) (hf : W.frozen? ⟨tb, 0, none⟩ = false) :
    (ReflectliteValue.set #[.agg #[.pointer (some ⟨14, 46, none⟩), .pointer (some ⟨tb, 0, none⟩), .int .u64 386], .agg #[.pointer (some ⟨14, 46, none⟩), .pointer (some ⟨nb, 0, none⟩), .int .u64 130]]).run Tryz.prog W
      = .ok (.tuple #[]) (W.setCell ⟨tb, 0, none⟩ (.int .i64 c)) := by
  rw [rls]
  simp only [Sem.run_bind, partsCa, partsCv, Result.andThen]
  simp [ReflectliteValue.flagAddr, loadVar, isAgg, underlying, Tryz.underlying46, hb, Result.andThen, directC, storeVar, Value.cells, storeCells, Addr.add]
  rw [run_store Tryz.prog W ⟨tb, 0, none⟩ _ _ (by rfl)]
  simp [ht, hf]
theorem sizeF (w : World) : (sizeOf 113).run Tryz.prog w = .ok 2 w := by kernel_rfl
theorem sizeP (w : World) : (sizeOf 88).run Tryz.prog w = .ok 2 w := by kernel_rfl
theorem setF (tb nb : Nat) (c at_ : Int) (o0 o1 : Value) (W : World) (hb0 : W.cell? ⟨nb, 0, none⟩ = some (.int .i64 c)) (hb1 : W.cell? ⟨nb, 1, none⟩ = some (.int .i64 at_)) (ht0 : W.cell? ⟨tb, 0, none⟩ = some o0) (ht1 : W.cell? ⟨tb, 1, none⟩ = some o1)
    (hf0 : W.frozen? ⟨tb, 0, none⟩ = false) (hf1 : W.frozen? ⟨tb, 1, none⟩ = false) :
    (ReflectliteValue.set #[.agg #[.pointer (some ⟨14, 113, none⟩), .pointer (some ⟨tb, 0, none⟩), .int .u64 409], .agg #[.pointer (some ⟨14, 113, none⟩), .pointer (some ⟨nb, 0, none⟩), .int .u64 153]]).run Tryz.prog W
      = .ok (.tuple #[]) ((W.setCell ⟨tb, 0, none⟩ (.int .i64 c)).setCell ⟨tb, 1, none⟩ (.int .i64 at_)) := by
  have ht1' : (W.setCell ⟨tb, 0, none⟩ (.int .i64 c)).cell? ⟨tb, 1, none⟩ = some o1 := by go_simp
  rw [rls]
  simp only [Sem.run_bind, partsFa, partsFv, Result.andThen]
  simp [ReflectliteValue.flagAddr, loadVar, isAgg, underlying, Tryz.underlying113, hb0, hb1, Result.andThen, directF, storeVar, Value.cells, storeCells, Addr.add, sizeF, loadCells, loadCellsFrom]
  rw [run_store Tryz.prog W ⟨tb, 0, none⟩ _ _ (by rfl)]
  simp only [stored, ht0, hf0, Result.andThen, Bool.false_eq_true, if_false]
  rw [run_store Tryz.prog _ ⟨tb, 1, none⟩ _ _ (by first | exact he1 | rfl)]
  simp only [stored, ht1', World.frozen?_setCell, hf1, Bool.false_eq_true, if_false]
theorem setP (tb nb : Nat) (k : Int) (e : Value) (o0 o1 : Value) (W : World) (he : e = .nilIface ∨ ∃ t v, e = .iface t v) (hb0 : W.cell? ⟨nb, 0, none⟩ = some (.int .i64 k)) (hb1 : W.cell? ⟨nb, 1, none⟩ = some e) (ht0 : W.cell? ⟨tb, 0, none⟩ = some o0) (ht1 : W.cell? ⟨tb, 1, none⟩ = some o1)
    (hf0 : W.frozen? ⟨tb, 0, none⟩ = false) (hf1 : W.frozen? ⟨tb, 1, none⟩ = false) :
    (ReflectliteValue.set #[.agg #[.pointer (some ⟨14, 88, none⟩), .pointer (some ⟨tb, 0, none⟩), .int .u64 409], .agg #[.pointer (some ⟨14, 88, none⟩), .pointer (some ⟨nb, 0, none⟩), .int .u64 153]]).run Tryz.prog W
      = .ok (.tuple #[]) ((W.setCell ⟨tb, 0, none⟩ (.int .i64 k)).setCell ⟨tb, 1, none⟩ e) := by
  have ht1' : (W.setCell ⟨tb, 0, none⟩ (.int .i64 k)).cell? ⟨tb, 1, none⟩ = some o1 := by go_simp
  rw [rls]
  simp only [Sem.run_bind, partsPa, partsPv, Result.andThen]
  have he1 : e.oneCell' = true := by rcases he with rfl | ⟨t, v, rfl⟩ <;> rfl
  simp [ReflectliteValue.flagAddr, loadVar, isAgg, underlying, Tryz.underlying88, hb0, hb1, Result.andThen, directP, storeVar, Value.cells, storeCells, Addr.add, sizeP, loadCells, loadCellsFrom]
  rw [run_store Tryz.prog W ⟨tb, 0, none⟩ _ _ (by rfl)]
  simp only [stored, ht0, hf0, Result.andThen, Bool.false_eq_true, if_false]
  rw [run_store Tryz.prog _ ⟨tb, 1, none⟩ _ _ (by first | exact he1 | rfl)]
  simp only [stored, ht1', World.frozen?_setCell, hf1, Bool.false_eq_true, if_false]
theorem taCAs (v : Value) (xT : TypeId) (w : World) : (Instr.typeAssert (.iface 46 v) xT 154 true).run Tryz.prog w = .ok (.tuple #[.nilIface, .bool false]) w := run_typeAssert_lacksB Tryz.underlying154 (by kernel_rfl) (by kernel_rfl) v xT w
theorem taCUn (v : Value) (xT : TypeId) (w : World) : (Instr.typeAssert (.iface 46 v) xT 157 true).run Tryz.prog w = .ok (.tuple #[.nilIface, .bool false]) w := run_typeAssert_lacksB Tryz.underlying157 (by kernel_rfl) (by kernel_rfl) v xT w
theorem taCUs (v : Value) (xT : TypeId) (w : World) : (Instr.typeAssert (.iface 46 v) xT 159 true).run Tryz.prog w = .ok (.tuple #[.nilIface, .bool false]) w := run_typeAssert_lacksB Tryz.underlying159 (by kernel_rfl) (by kernel_rfl) v xT w
theorem taFAs (v : Value) (xT : TypeId) (w : World) : (Instr.typeAssert (.iface 113 v) xT 154 true).run Tryz.prog w = .ok (.tuple #[.nilIface, .bool false]) w := run_typeAssert_lacksB Tryz.underlying154 (by kernel_rfl) (by kernel_rfl) v xT w
theorem taFUn (v : Value) (xT : TypeId) (w : World) : (Instr.typeAssert (.iface 113 v) xT 157 true).run Tryz.prog w = .ok (.tuple #[.iface 113 v, .bool true]) w := run_typeAssert_hasB Tryz.underlying157 (by kernel_rfl) v xT w
theorem taFUs (v : Value) (xT : TypeId) (w : World) : (Instr.typeAssert (.iface 113 v) xT 159 true).run Tryz.prog w = .ok (.tuple #[.nilIface, .bool false]) w := run_typeAssert_lacksB Tryz.underlying159 (by kernel_rfl) (by kernel_rfl) v xT w
theorem taPAs (v : Value) (xT : TypeId) (w : World) : (Instr.typeAssert (.iface 88 v) xT 154 true).run Tryz.prog w = .ok (.tuple #[.nilIface, .bool false]) w := run_typeAssert_lacksB Tryz.underlying154 (by kernel_rfl) (by kernel_rfl) v xT w
theorem taPUn (v : Value) (xT : TypeId) (w : World) : (Instr.typeAssert (.iface 88 v) xT 157 true).run Tryz.prog w = .ok (.tuple #[.iface 88 v, .bool true]) w := run_typeAssert_hasB Tryz.underlying157 (by kernel_rfl) v xT w
theorem taPUs (v : Value) (xT : TypeId) (w : World) : (Instr.typeAssert (.iface 88 v) xT 159 true).run Tryz.prog w = .ok (.tuple #[.nilIface, .bool false]) w := run_typeAssert_lacksB Tryz.underlying159 (by kernel_rfl) (by kernel_rfl) v xT w
theorem taOAs (v : Value) (xT : TypeId) (w : World) : (Instr.typeAssert (.iface 89 v) xT 154 true).run Tryz.prog w = .ok (.tuple #[.nilIface, .bool false]) w := run_typeAssert_lacksB Tryz.underlying154 (by kernel_rfl) (by kernel_rfl) v xT w
theorem taOUn (v : Value) (xT : TypeId) (w : World) : (Instr.typeAssert (.iface 89 v) xT 157 true).run Tryz.prog w = .ok (.tuple #[.nilIface, .bool false]) w := run_typeAssert_lacksB Tryz.underlying157 (by kernel_rfl) (by kernel_rfl) v xT w
theorem taOUs (v : Value) (xT : TypeId) (w : World) : (Instr.typeAssert (.iface 89 v) xT 159 true).run Tryz.prog w = .ok (.tuple #[.nilIface, .bool false]) w := run_typeAssert_lacksB Tryz.underlying159 (by kernel_rfl) (by kernel_rfl) v xT w
theorem unF (c at_ : Value) (w : World) : (Go.method 319 113 (.agg #[c, at_]) "Unwrap").run Tryz.prog w = .ok (159, .agg #[c, at_]) w := by kernel_rfl
theorem unP (k e : Value) (w : World) : (Go.method 319 88 (.agg #[k, e]) "Unwrap").run Tryz.prog w = .ok (155, .agg #[k, e]) w := by kernel_rfl
theorem faultUnwrap_any (c at_ : Int) (w : World) : Calls Tryz.prog 159 #[.agg #[.int .i64 c, .int .i64 at_]] w fun e w' => e = .returned (.iface 46 (.int .i64 c)) ∧ Below w.heap.size w w' := by
  go_enter Tryz.func159, Tryz.ntmps159
  go_wp2
  go_ret
  exact ⟨rfl, (Below.refl _ _).alloc (Nat.le_refl _) _⟩
theorem placedUnwrap_any (k : Int) (t : TypeId) (v : Value) (w : World) : Calls Tryz.prog 155 #[.agg #[.int .i64 k, .iface t v]] w fun e w' => e = .returned (.iface t v) ∧ Below w.heap.size w w' := by
  go_enter Tryz.func155, Tryz.ntmps155
  go_wp2
  go_ret
  exact ⟨rfl, (Below.refl _ _).alloc (Nat.le_refl _) _⟩
end Go.Proofs.YtdclokpoeaehlaaGreatDoor
