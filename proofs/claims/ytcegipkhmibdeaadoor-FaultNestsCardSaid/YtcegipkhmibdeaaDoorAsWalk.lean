/- errors.As and errors.as: the walk over a chain of errors. -/
import Derived.Test.YtcegipkhmibdeaaDoorAs
import Derived.Test.YtcegipkhmibdeaaDoorErr
namespace Go.Proofs.YtcegipkhmibdeaaDoor
set_option linter.all false
open Go.RowKit Go.Extern.Stop Go.Stop Go.Extern

theorem setC (tb nb : Nat) (c : Int) (old : Value) (W : World) (hb : W.cell? ⟨nb, 0, none⟩ = some (.int .i64 c)) (ht : W.cell? ⟨tb, 0, none⟩ = some old) (hf : W.frozen? ⟨tb, 0, none⟩ = false) :
    (ReflectliteValue.set #[.agg #[.pointer (some ⟨7, 94, none⟩), .pointer (some ⟨tb, 0, none⟩), .int .u64 386], .agg #[.pointer (some ⟨7, 94, none⟩), .pointer (some ⟨nb, 0, none⟩), .int .u64 130]]).run Tryd.prog W
      = .ok (.tuple #[]) (W.setCell ⟨tb, 0, none⟩ (.int .i64 c)) := by
  rw [rls]
  simp only [Sem.run_bind, partsCa, partsCv, Result.andThen]
  simp [ReflectliteValue.flagAddr, loadVar, isAgg, underlying, Tryd.underlying94, hb, Result.andThen, directC, storeVar, Value.cells, storeCells, Addr.add]
  rw [run_store Tryd.prog W ⟨tb, 0, none⟩ _ _ (by rfl)]
  simp [ht, hf]
theorem sizeF (w : World) : (sizeOf 106).run Tryd.prog w = .ok 2 w := by kernel_rfl
theorem sizeP (w : World) : (sizeOf 140).run Tryd.prog w = .ok 2 w := by kernel_rfl
theorem setF (tb nb : Nat) (c at_ : Int) (o0 o1 : Value) (W : World) (hb0 : W.cell? ⟨nb, 0, none⟩ = some (.int .i64 c)) (hb1 : W.cell? ⟨nb, 1, none⟩ = some (.int .i64 at_)) (ht0 : W.cell? ⟨tb, 0, none⟩ = some o0) (ht1 : W.cell? ⟨tb, 1, none⟩ = some o1)
    (hf0 : W.frozen? ⟨tb, 0, none⟩ = false) (hf1 : W.frozen? ⟨tb, 1, none⟩ = false) :
    (ReflectliteValue.set #[.agg #[.pointer (some ⟨7, 106, none⟩), .pointer (some ⟨tb, 0, none⟩), .int .u64 409], .agg #[.pointer (some ⟨7, 106, none⟩), .pointer (some ⟨nb, 0, none⟩), .int .u64 153]]).run Tryd.prog W
      = .ok (.tuple #[]) ((W.setCell ⟨tb, 0, none⟩ (.int .i64 c)).setCell ⟨tb, 1, none⟩ (.int .i64 at_)) := by
  have ht1' : (W.setCell ⟨tb, 0, none⟩ (.int .i64 c)).cell? ⟨tb, 1, none⟩ = some o1 := by go_simp
  rw [rls]
  simp only [Sem.run_bind, partsFa, partsFv, Result.andThen]
  simp [ReflectliteValue.flagAddr, loadVar, isAgg, underlying, Tryd.underlying106, hb0, hb1, Result.andThen, directF, storeVar, Value.cells, storeCells, Addr.add, sizeF, loadCells, loadCellsFrom]
  rw [run_store Tryd.prog W ⟨tb, 0, none⟩ _ _ (by rfl)]
  simp only [stored, ht0, hf0, Result.andThen, Bool.false_eq_true, if_false]
  rw [run_store Tryd.prog _ ⟨tb, 1, none⟩ _ _ (by first | exact he1 | rfl)]
  simp only [stored, ht1', World.frozen?_setCell, hf1, Bool.false_eq_true, if_false]
theorem setP (tb nb : Nat) (k : Int) (e : Value) (o0 o1 : Value) (W : World) (he : e = .nilIface ∨ ∃ t v, e = .iface t v) (hb0 : W.cell? ⟨nb, 0, none⟩ = some (.int .i64 k)) (hb1 : W.cell? ⟨nb, 1, none⟩ = some e) (ht0 : W.cell? ⟨tb, 0, none⟩ = some o0) (ht1 : W.cell? ⟨tb, 1, none⟩ = some o1)
    (hf0 : W.frozen? ⟨tb, 0, none⟩ = false) (hf1 : W.frozen? ⟨tb, 1, none⟩ = false) :
    (ReflectliteValue.set #[.agg #[.pointer (some ⟨7, 140, none⟩), .pointer (some ⟨tb, 0, none⟩), .int .u64 409], .agg #[.pointer (some ⟨7, 140, none⟩), .pointer (some ⟨nb, 0, none⟩), .int .u64 153]]).run Tryd.prog W
      = .ok (.tuple #[]) ((W.setCell ⟨tb, 0, none⟩ (.int .i64 k)).setCell ⟨tb, 1, none⟩ e) := by
  have ht1' : (W.setCell ⟨tb, 0, none⟩ (.int .i64 k)).cell? ⟨tb, 1, none⟩ = some o1 := by go_simp
  rw [rls]
  simp only [Sem.run_bind, partsPa, partsPv, Result.andThen]
  have he1 : e.oneCell' = true := by rcases he with rfl | ⟨t, v, rfl⟩ <;> rfl
  simp [ReflectliteValue.flagAddr, loadVar, isAgg, underlying, Tryd.underlying140, hb0, hb1, Result.andThen, directP, storeVar, Value.cells, storeCells, Addr.add, sizeP, loadCells, loadCellsFrom]
  rw [run_store Tryd.prog W ⟨tb, 0, none⟩ _ _ (by rfl)]
  simp only [stored, ht0, hf0, Result.andThen, Bool.false_eq_true, if_false]
  rw [run_store Tryd.prog _ ⟨tb, 1, none⟩ _ _ (by first | exact he1 | rfl)]
  simp only [stored, ht1', World.frozen?_setCell, hf1, Bool.false_eq_true, if_false]
theorem taCAs (v : Value) (xT : TypeId) (w : World) : (Instr.typeAssert (.iface 94 v) xT 180 true).run Tryd.prog w = .ok (.tuple #[.nilIface, .bool false]) w := run_typeAssert_lacksB Tryd.underlying180 (by kernel_rfl) (by kernel_rfl) v xT w
theorem taCUn (v : Value) (xT : TypeId) (w : World) : (Instr.typeAssert (.iface 94 v) xT 161 true).run Tryd.prog w = .ok (.tuple #[.nilIface, .bool false]) w := run_typeAssert_lacksB Tryd.underlying161 (by kernel_rfl) (by kernel_rfl) v xT w
theorem taCUs (v : Value) (xT : TypeId) (w : World) : (Instr.typeAssert (.iface 94 v) xT 176 true).run Tryd.prog w = .ok (.tuple #[.nilIface, .bool false]) w := run_typeAssert_lacksB Tryd.underlying176 (by kernel_rfl) (by kernel_rfl) v xT w
theorem taCIs (v : Value) (xT : TypeId) (w : World) : (Instr.typeAssert (.iface 94 v) xT 174 true).run Tryd.prog w = .ok (.tuple #[.nilIface, .bool false]) w := run_typeAssert_lacksB Tryd.underlying174 (by kernel_rfl) (by kernel_rfl) v xT w
theorem taFAs (v : Value) (xT : TypeId) (w : World) : (Instr.typeAssert (.iface 106 v) xT 180 true).run Tryd.prog w = .ok (.tuple #[.nilIface, .bool false]) w := run_typeAssert_lacksB Tryd.underlying180 (by kernel_rfl) (by kernel_rfl) v xT w
theorem taFUn (v : Value) (xT : TypeId) (w : World) : (Instr.typeAssert (.iface 106 v) xT 161 true).run Tryd.prog w = .ok (.tuple #[.iface 106 v, .bool true]) w := run_typeAssert_hasB Tryd.underlying161 (by kernel_rfl) v xT w
theorem taFUs (v : Value) (xT : TypeId) (w : World) : (Instr.typeAssert (.iface 106 v) xT 176 true).run Tryd.prog w = .ok (.tuple #[.nilIface, .bool false]) w := run_typeAssert_lacksB Tryd.underlying176 (by kernel_rfl) (by kernel_rfl) v xT w
theorem taFIs (v : Value) (xT : TypeId) (w : World) : (Instr.typeAssert (.iface 106 v) xT 174 true).run Tryd.prog w = .ok (.tuple #[.nilIface, .bool false]) w := run_typeAssert_lacksB Tryd.underlying174 (by kernel_rfl) (by kernel_rfl) v xT w
theorem taPAs (v : Value) (xT : TypeId) (w : World) : (Instr.typeAssert (.iface 140 v) xT 180 true).run Tryd.prog w = .ok (.tuple #[.nilIface, .bool false]) w := run_typeAssert_lacksB Tryd.underlying180 (by kernel_rfl) (by kernel_rfl) v xT w
theorem taPUn (v : Value) (xT : TypeId) (w : World) : (Instr.typeAssert (.iface 140 v) xT 161 true).run Tryd.prog w = .ok (.tuple #[.iface 140 v, .bool true]) w := run_typeAssert_hasB Tryd.underlying161 (by kernel_rfl) v xT w
theorem taPUs (v : Value) (xT : TypeId) (w : World) : (Instr.typeAssert (.iface 140 v) xT 176 true).run Tryd.prog w = .ok (.tuple #[.nilIface, .bool false]) w := run_typeAssert_lacksB Tryd.underlying176 (by kernel_rfl) (by kernel_rfl) v xT w
theorem taPIs (v : Value) (xT : TypeId) (w : World) : (Instr.typeAssert (.iface 140 v) xT 174 true).run Tryd.prog w = .ok (.tuple #[.nilIface, .bool false]) w := run_typeAssert_lacksB Tryd.underlying174 (by kernel_rfl) (by kernel_rfl) v xT w
theorem taOAs (v : Value) (xT : TypeId) (w : World) : (Instr.typeAssert (.iface 148 v) xT 180 true).run Tryd.prog w = .ok (.tuple #[.nilIface, .bool false]) w := run_typeAssert_lacksB Tryd.underlying180 (by kernel_rfl) (by kernel_rfl) v xT w
theorem taOUn (v : Value) (xT : TypeId) (w : World) : (Instr.typeAssert (.iface 148 v) xT 161 true).run Tryd.prog w = .ok (.tuple #[.nilIface, .bool false]) w := run_typeAssert_lacksB Tryd.underlying161 (by kernel_rfl) (by kernel_rfl) v xT w
theorem taOUs (v : Value) (xT : TypeId) (w : World) : (Instr.typeAssert (.iface 148 v) xT 176 true).run Tryd.prog w = .ok (.tuple #[.nilIface, .bool false]) w := run_typeAssert_lacksB Tryd.underlying176 (by kernel_rfl) (by kernel_rfl) v xT w
theorem taOIs (v : Value) (xT : TypeId) (w : World) : (Instr.typeAssert (.iface 148 v) xT 174 true).run Tryd.prog w = .ok (.tuple #[.nilIface, .bool false]) w := run_typeAssert_lacksB Tryd.underlying174 (by kernel_rfl) (by kernel_rfl) v xT w
theorem unF (c at_ : Value) (w : World) : (Go.method 329 106 (.agg #[c, at_]) "Unwrap").run Tryd.prog w = .ok (161, .agg #[c, at_]) w := by kernel_rfl
theorem unP (k e : Value) (w : World) : (Go.method 329 140 (.agg #[k, e]) "Unwrap").run Tryd.prog w = .ok (164, .agg #[k, e]) w := by kernel_rfl
theorem faultUnwrap_any (c at_ : Int) (w : World) : Calls Tryd.prog 161 #[.agg #[.int .i64 c, .int .i64 at_]] w fun e w' => e = .returned (.iface 94 (.int .i64 c)) ∧ Below w.heap.size w w' := by
  go_enter Tryd.func161, Tryd.ntmps161
  go_wp2
  go_ret
  exact ⟨rfl, (Below.refl _ _).alloc (Nat.le_refl _) _⟩
theorem placedUnwrap_any (k : Int) (t : TypeId) (v : Value) (w : World) : Calls Tryd.prog 164 #[.agg #[.int .i64 k, .iface t v]] w fun e w' => e = .returned (.iface t v) ∧ Below w.heap.size w w' := by
  go_enter Tryd.func164, Tryd.ntmps164
  go_wp2
  go_ret
  exact ⟨rfl, (Below.refl _ _).alloc (Nat.le_refl _) _⟩

end Go.Proofs.YtcegipkhmibdeaaDoor
