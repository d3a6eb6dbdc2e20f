/- AsWalk, AsC: together in one text. -/
import Derived.Test.YtdclokpoeaehlaaGreatDoorGh
/- errors.As and errors.as: the walk over a chain of errors. -/
namespace Go.Proofs.YtdclokpoeaehlaaGreatDoor
set_option linter.all false
open Go.RowKit Go.Extern.Stop Go.Stop Go.Extern

theorem setC (tb nb : Nat) (c : Int) (old : Value) (W : World) (hb : W.cell? ⟨nb, 0, none⟩ = some (.int .i64 c)) (ht : W.cell? ⟨tb, 0, none⟩ = some old) (hf : W.frozen? ⟨tb, 0, none⟩ = false) :
    (ReflectliteValue.set #[.agg #[.pointer (some ⟨14, 46, none⟩), .pointer (some ⟨tb, 0, none⟩), .int .u64 386], .agg #[.pointer (some ⟨14, 46, none⟩), .pointer (some ⟨nb, 0, none⟩), .int .u64 130]]).run Tryz.prog W
      = .ok (.tuple #[]) (W.setCell ⟨tb, 0, none⟩ (.int .i64 c)) := by
  rw [rls]
  simp only [Sem.run_bind, partsCa, partsCv, Result.andThen]
  simp [ReflectliteValue.flagAddr, loadVar, isAgg, underlying, Tryz.underlying46, hb, Result.andThen, directC, storeVar, Value.cells, storeCells, Addr.add]
  rw [run_store Tryz.prog W ⟨tb, 0, none⟩ _ _ (by rfl)]
  simp [ht, hf]
theorem sizeF (w : World) : (sizeOf 113).run Tryz.prog w = .ok 2 w := by kernel_rfl
theorem sizeP (w : World) : (sizeOf 88).run Tryz.prog w = .ok 2 w := by kernel_rfl
theorem setF (tb nb : Nat) (c at_ : Int) (o0 o1 : Value) (W : World) (hb0 : W.cell? ⟨nb, 0, none⟩ = some (.int .i64 c)) (hb1 : W.cell? ⟨nb, 1, none⟩ = some (.int .i64 at_)) (ht0 : W.cell? ⟨tb, 0, none⟩ = some o0) (ht1 : W.cell? ⟨tb, 1, none⟩ = some o1)
    (hf0 : W.frozen? ⟨tb, 0, none⟩ = false) (hf1 : W.frozen? ⟨tb, 1, none⟩ = false) :
    (ReflectliteValue.set #[.agg #[.pointer (some ⟨14, 113, none⟩), .pointer (some ⟨tb, 0, none⟩), .int .u64 409], .agg #[.pointer (some ⟨14, 113, none⟩), .pointer (some ⟨nb, 0, none⟩), .int .u64 153]]).run Tryz.prog W
      = .ok (.tuple #[]) ((W.setCell ⟨tb, 0, none⟩ (.int .i64 c)).setCell ⟨tb, 1, none⟩ (.int .i64 at_)) := by
  have ht1' : (W.setCell ⟨tb, 0, none⟩ (.int .i64 c)).cell? ⟨tb, 1, none⟩ = some o1 := by go_simp
  rw [rls]
  simp only [Sem.run_bind, partsFa, partsFv, Result.andThen]
  simp [ReflectliteValue.flagAddr, loadVar, isAgg, underlying, Tryz.underlying113, hb0, hb1, Result.andThen, directF, storeVar, Value.cells, storeCells, Addr.add, sizeF, loadCells, loadCellsFrom]
  rw [run_store Tryz.prog W ⟨tb, 0, none⟩ _ _ (by rfl)]
  simp only [stored, ht0, hf0, Result.andThen, Bool.false_eq_true, if_false]
  rw [run_store Tryz.prog _ ⟨tb, 1, none⟩ _ _ (by first | exact he1 | rfl)]
  simp only [stored, ht1', World.frozen?_setCell, hf1, Bool.false_eq_true, if_false]
theorem setP (tb nb : Nat) (k : Int) (e : Value) (o0 o1 : Value) (W : World) (he : e = .nilIface ∨ ∃ t v, e = .iface t v) (hb0 : W.cell? ⟨nb, 0, none⟩ = some (.int .i64 k)) (hb1 : W.cell? ⟨nb, 1, none⟩ = some e) (ht0 : W.cell? ⟨tb, 0, none⟩ = some o0) (ht1 : W.cell? ⟨tb, 1, none⟩ = some o1)
    (hf0 : W.frozen? ⟨tb, 0, none⟩ = false) (hf1 : W.frozen? ⟨tb, 1, none⟩ = false) :
    (ReflectliteValue.set #[.agg #[.pointer (some ⟨14, 88, none⟩), .pointer (some ⟨tb, 0, none⟩), .int .u64 409], .agg #[.pointer (some ⟨14, 88, none⟩), .pointer (some ⟨nb, 0, none⟩), .int .u64 153]]).run Tryz.prog W
      = .ok (.tuple #[]) ((W.setCell ⟨tb, 0, none⟩ (.int .i64 k)).setCell ⟨tb, 1, none⟩ e) := by
  have ht1' : (W.setCell ⟨tb, 0, none⟩ (.int .i64 k)).cell? ⟨tb, 1, none⟩ = some o1 := by go_simp
  rw [rls]
  simp only [Sem.run_bind, partsPa, partsPv, Result.andThen]
  have he1 : e.oneCell' = true := by rcases he with rfl | ⟨t, v, rfl⟩ <;> rfl
  simp [ReflectliteValue.flagAddr, loadVar, isAgg, underlying, Tryz.underlying88, hb0, hb1, Result.andThen, directP, storeVar, Value.cells, storeCells, Addr.add, sizeP, loadCells, loadCellsFrom]
  rw [run_store Tryz.prog W ⟨tb, 0, none⟩ _ _ (by rfl)]
  simp only [stored, ht0, hf0, Result.andThen, Bool.false_eq_true, if_false]
  rw [run_store Tryz.prog _ ⟨tb, 1, none⟩ _ _ (by first | exact he1 | rfl)]
  simp only [stored, ht1', World.frozen?_setCell, hf1, Bool.false_eq_true, if_false]
theorem taCAs (v : Value) (xT : TypeId) (w : World) : (Instr.typeAssert (.iface 46 v) xT 154 true).run Tryz.prog w = .ok (.tuple #[.nilIface, .bool false]) w := run_typeAssert_lacksB Tryz.underlying154 (by kernel_rfl) (by kernel_rfl) v xT w
theorem taCUn (v : Value) (xT : TypeId) (w : World) : (Instr.typeAssert (.iface 46 v) xT 157 true).run Tryz.prog w = .ok (.tuple #[.nilIface, .bool false]) w := run_typeAssert_lacksB Tryz.underlying157 (by kernel_rfl) (by kernel_rfl) v xT w
theorem taCUs (v : Value) (xT : TypeId) (w : World) : (Instr.typeAssert (.iface 46 v) xT 159 true).run Tryz.prog w = .ok (.tuple #[.nilIface, .bool false]) w := run_typeAssert_lacksB Tryz.underlying159 (by kernel_rfl) (by kernel_rfl) v xT w
theorem taFAs (v : Value) (xT : TypeId) (w : World) : (Instr.typeAssert (.iface 113 v) xT 154 true).run Tryz.prog w = .ok (.tuple #[.nilIface, .bool false]) w := run_typeAssert_lacksB Tryz.underlying154 (by kernel_rfl) (by kernel_rfl) v xT w
theorem taFUn (v : Value) (xT : TypeId) (w : World) : (Instr.typeAssert (.iface 113 v) xT 157 true).run Tryz.prog w = .ok (.tuple #[.iface 113 v, .bool true]) w := run_typeAssert_hasB Tryz.underlying157 (by kernel_rfl) v xT w
theorem taFUs (v : Value) (xT : TypeId) (w : World) : (Instr.typeAssert (.iface 113 v) xT 159 true).run Tryz.prog w = .ok (.tuple #[.nilIface, .bool false]) w := run_typeAssert_lacksB Tryz.underlying159 (by kernel_rfl) (by kernel_rfl) v xT w
theorem taPAs (v : Value) (xT : TypeId) (w : World) : (Instr.typeAssert (.iface 88 v) xT 154 true).run Tryz.prog w = .ok (.tuple #[.nilIface, .bool false]) w := run_typeAssert_lacksB Tryz.underlying154 (by kernel_rfl) (by kernel_rfl) v xT w
theorem taPUn (v : Value) (xT : TypeId) (w : World) : (Instr.typeAssert (.iface 88 v) xT 157 true).run Tryz.prog w = .ok (.tuple #[.iface 88 v, .bool true]) w := run_typeAssert_hasB Tryz.underlying157 (by kernel_rfl) v xT w
theorem taPUs (v : Value) (xT : TypeId) (w : World) : (Instr.typeAssert (.iface 88 v) xT 159 true).run Tryz.prog w = .ok (.tuple #[.nilIface, .bool false]) w := run_typeAssert_lacksB Tryz.underlying159 (by kernel_rfl) (by kernel_rfl) v xT w
theorem taOAs (v : Value) (xT : TypeId) (w : World) : (Instr.typeAssert (.iface 89 v) xT 154 true).run Tryz.prog w = .ok (.tuple #[.nilIface, .bool false]) w := run_typeAssert_lacksB Tryz.underlying154 (by kernel_rfl) (by kernel_rfl) v xT w
theorem taOUn (v : Value) (xT : TypeId) (w : World) : (Instr.typeAssert (.iface 89 v) xT 157 true).run Tryz.prog w = .ok (.tuple #[.nilIface, .bool false]) w := run_typeAssert_lacksB Tryz.underlying157 (by kernel_rfl) (by kernel_rfl) v xT w
theorem taOUs (v : Value) (xT : TypeId) (w : World) : (Instr.typeAssert (.iface 89 v) xT 159 true).run Tryz.prog w = .ok (.tuple #[.nilIface, .bool false]) w := run_typeAssert_lacksB Tryz.underlying159 (by kernel_rfl) (by kernel_rfl) v xT w
theorem unF (c at_ : Value) (w : World) : (Go.method 319 113 (.agg #[c, at_]) "Unwrap").run Tryz.prog w = .ok (159, .agg #[c, at_]) w := by kernel_rfl
theorem unP (k e : Value) (w : World) : (Go.method 319 88 (.agg #[k, e]) "Unwrap").run Tryz.prog w = .ok (155, .agg #[k, e]) w := by kernel_rfl
theorem faultUnwrap_any (c at_ : Int) (w : World) : Calls Tryz.prog 159 #[.agg #[.int .i64 c, .int .i64 at_]] w fun e w' => e = .returned (.iface 46 (.int .i64 c)) ∧ Below w.heap.size w w' := by
  go_enter Tryz.func159, Tryz.ntmps159
  go_wp2
  go_ret
  exact ⟨rfl, (Below.refl _ _).alloc (Nat.le_refl _) _⟩
theorem placedUnwrap_any (k : Int) (t : TypeId) (v : Value) (w : World) : Calls Tryz.prog 155 #[.agg #[.int .i64 k, .iface t v]] w fun e w' => e = .returned (.iface t v) ∧ Below w.heap.size w w' := by
  go_enter Tryz.func155, Tryz.ntmps155
  go_wp2
  go_ret
  exact ⟨rfl, (Below.refl _ _).alloc (Nat.le_refl _) _⟩
end Go.Proofs.YtdclokpoeaehlaaGreatDoor
/- errors.as at the target *api.Code. -/
namespace Go.Proofs.YtdclokpoeaehlaaGreatDoor
set_option linter.all false
open Go.RowKit Go.Extern.Stop Go.Stop Go.Extern

/-- What errors.as does to the world: nothing that was there, but the target where it finds. -/
def PostC (w : World) (tb : Nat) (o0 : Value) (o : Option Int) (w' : World) : Prop :=
  Below tb w w' ∧ w'.cell? ⟨tb, 0, none⟩ = some (match o with | some c => .int .i64 c | none => o0)
set_option maxHeartbeats 4000000 in
set_option maxRecDepth 100000 in
theorem asC_any (e : EV) (tb vb : Nat) (o0 : Value) (w : World) (hv : w.cell? ⟨vb, 0, none⟩ = some (.pointer (some ⟨tb, 0, none⟩))) (ht0 : w.cell? ⟨tb, 0, none⟩ = some o0) (hf0 : w.frozen? ⟨tb, 0, none⟩ = false) :
    Calls Tryz.prog 97 #[e.val, .iface 116 (.pointer (some ⟨tb, 0, none⟩)), .agg #[.pointer (some ⟨14, 116, none⟩), .pointer (some ⟨vb, 0, none⟩), .int .u64 150], .iface 149 (.agg #[.pointer (some ⟨14, 46, none⟩)])] w fun r w' => r = .returned (.bool e.asC.isSome) ∧ PostC w tb o0 e.asC w' := by
  have hvl := World.block_lt_of_cell? w _ hv
  have htl := World.block_lt_of_cell? w _ ht0
  simp only at hvl htl
  obtain ⟨t0, v0, he0⟩ := e.iface
  rw [he0]
  have x112 := @run_callFunc_extern Tryz.prog 110 _ ReflectliteType.typeOf Tryz.func110 (by kernel_rfl) (by kernel_rfl) (by kernel_rfl) (by kernel_rfl)
  have x114 := @run_callFunc_extern Tryz.prog 94 _ (fun args => ReflectliteValue.unpack (args.getD 0 (.tuple #[]))) Tryz.func94 (by kernel_rfl) (by kernel_rfl) (by kernel_rfl) (by kernel_rfl)
  have xas := @run_callFunc_extern Tryz.prog 167 _ (ReflectliteType.relation "AssignableTo" ReflectliteType.assignableTo) Tryz.func167 (by kernel_rfl) (by kernel_rfl) (by kernel_rfl) (by kernel_rfl)
  have x123 := @run_callFunc_extern Tryz.prog 111 _ (ReflectliteValue.method (ReflectliteValue.valueError "reflectlite.Value.Elem" 0) ReflectliteValue.elem) Tryz.func111 (by kernel_rfl) (by kernel_rfl) (by kernel_rfl) (by kernel_rfl)
  have x124 := @run_callFunc_extern Tryz.prog 112 _ ReflectliteValue.set Tryz.func112 (by kernel_rfl) (by kernel_rfl) (by kernel_rfl) (by kernel_rfl)
  have mA := methodAssignableTo
  obtain ⟨w0, hw0⟩ : ∃ w0, w0 = w.alloc (.cells #[.pointer (some ⟨14, 116, none⟩), .pointer (some ⟨vb, 0, none⟩), .int .u64 150] 129) := ⟨_, rfl⟩
  have hB : Below w.heap.size w w0 := by rw [hw0]; exact (Below.refl _ w).alloc (Nat.le_refl _) _
  have hs : w0.heap.size = w.heap.size + 1 := by rw [hw0]; simp
  have b0 : w0.cell? ⟨w.heap.size, 0, none⟩ = some (.pointer (some ⟨14, 116, none⟩)) := by rw [hw0]; go_simp
  have b1 : w0.cell? ⟨w.heap.size, 1, none⟩ = some (.pointer (some ⟨vb, 0, none⟩)) := by rw [hw0]; go_simp
  have b2 : w0.cell? ⟨w.heap.size, 2, none⟩ = some (.int .u64 150) := by rw [hw0]; go_simp
  have v1 : w0.cell? ⟨vb, 0, none⟩ = some (.pointer (some ⟨tb, 0, none⟩)) := (hB.cell (p := ⟨vb, 0, none⟩) hvl).trans hv
  have t1 : w0.cell? ⟨tb, 0, none⟩ = some o0 := (hB.cell (p := ⟨tb, 0, none⟩) htl).trans ht0
  have f1 : w0.frozen? ⟨tb, 0, none⟩ = false := (hB.frozen (p := ⟨tb, 0, none⟩) htl).trans hf0
  clear hv ht0 hf0
  have HE := Lib.hid he0; clear he0
  go_enter Tryz.func97, Tryz.ntmps97
  go_wp2
  change Code.wp _ _ _ _ (w.alloc (.cells #[.pointer (some ⟨14, 116, none⟩), .pointer (some ⟨vb, 0, none⟩), .int .u64 150] 129))
  rw [← hw0]
  clear hw0
  go_loopg [0] e.depth (fun gg x wr => ∃ e' : EV, x = e'.val ∧ e'.depth ≤ gg ∧ Hid (e.asC = e'.asC) ∧ Aside (Below w0.heap.size w0 wr))
  case atStart => exact ⟨e, HE.out.symm, Nat.le_refl _, rfl, Below.refl _ _⟩
  case round =>
    obtain ⟨e', rfl, hd, hr, hb⟩ := hrel
    have hsz := hb.out.size
    have c0 : wr.cell? ⟨w.heap.size, 0, none⟩ = some (.pointer (some ⟨14, 116, none⟩)) := (hb.out.cell (p := ⟨w.heap.size, 0, none⟩) (by show w.heap.size < _; omega)).trans b0
    have c1 : wr.cell? ⟨w.heap.size, 1, none⟩ = some (.pointer (some ⟨vb, 0, none⟩)) := (hb.out.cell (p := ⟨w.heap.size, 1, none⟩) (by show w.heap.size < _; omega)).trans b1
    have c2 : wr.cell? ⟨w.heap.size, 2, none⟩ = some (.int .u64 150) := (hb.out.cell (p := ⟨w.heap.size, 2, none⟩) (by show w.heap.size < _; omega)).trans b2
    have c3 : wr.cell? ⟨vb, 0, none⟩ = some (.pointer (some ⟨tb, 0, none⟩)) := (hb.out.cell (p := ⟨vb, 0, none⟩) (by show vb < _; omega)).trans v1
    have c4 : wr.cell? ⟨tb, 0, none⟩ = some o0 := (hb.out.cell (p := ⟨tb, 0, none⟩) (by show tb < _; omega)).trans t1
    have c5 : wr.frozen? ⟨tb, 0, none⟩ = false := (hb.out.frozen (p := ⟨tb, 0, none⟩) (by show tb < _; omega)).trans f1
    clear b0 b1 b2 v1 t1 f1
    have l1 : w.heap.size < wr.heap.size := by omega
    have l2 : vb < wr.heap.size := by omega
    have l3 : tb < wr.heap.size := by omega
    have hbw : Below tb w wr := (hB.trans (hb.out.mono hB.size)).mono (Nat.le_of_lt htl)
    cases e' with
    | code c =>
      change Code.wp _ _ _ { tmps := _, defers := _ } _
      have hval : (EV.code c).val = .iface 46 (.int .i64 c) := rfl
      rw [hval]
      clear hval
      have tO := typeOfC (.int .i64 c)
      have aT := assignableCC
      have uX := unpackC c
      have eX := fun W => elemVC ⟨vb, 0, none⟩ ⟨tb, 0, none⟩ W
      have sX := fun nb W => setC tb nb c o0 W
      go_wp2
      go_ret
      refine ⟨by rw [hr.out]; rfl, ?_⟩
      rw [hr.out]
      refine ⟨?_, ?_⟩
      · repeat (first | exact hbw | (with_reducible refine Below.alloc ?_ (by simp; omega) _) | (with_reducible refine Below.setCell ?_ (by exact Nat.le_refl _) _) | with_reducible refine Below.drew ?_ | with_reducible refine below_drewN ?_ _)
      all_goals first | (go_simp; done) | (go_simp; rfl)
    | fault c a =>
      change Code.wp _ _ _ { tmps := _, defers := _ } _
      have hval : (EV.fault c a).val = .iface 113 (.agg #[.int .i64 c, .int .i64 a]) := rfl
      rw [hval]
      clear hval
      have tO := typeOfF (.agg #[.int .i64 c, .int .i64 a])
      have aT := assignableFC
      have q1 := taFAs (.agg #[.int .i64 c, .int .i64 a])
      have q2 := taFUn (.agg #[.int .i64 c, .int .i64 a])
      have uN := unF (.int .i64 c) (.int .i64 a)
      go_wp2_with fail
      refine (faultUnwrap_any c a _).mono ?_
      rintro r w1 ⟨rfl, hb1⟩
      go_wp2
      go_roundg (0)
      case measure => exact hd
      case rel => exact ⟨EV.code c, rfl, Nat.le_refl _, hr.out.trans rfl, hb.out.trans (hb1.mono hsz)⟩
    | other p =>
      change Code.wp _ _ _ { tmps := _, defers := _ } _
      have hval : (EV.other p).val = .iface 89 (.pointer (some p)) := rfl
      rw [hval]
      clear hval
      have tO := typeOfO (.pointer (some p))
      have aT := assignableOC
      have q1 := taOAs (.pointer (some p))
      have q2 := taOUn (.pointer (some p))
      have q3 := taOUs (.pointer (some p))
      go_wp2
      go_ret
      refine ⟨by rw [hr.out]; rfl, ?_⟩
      rw [hr.out]
      refine ⟨?_, ?_⟩
      · repeat (first | exact hbw | (with_reducible refine Below.alloc ?_ (by simp; omega) _) | (with_reducible refine Below.setCell ?_ (by exact Nat.le_refl _) _) | with_reducible refine Below.drew ?_ | with_reducible refine below_drewN ?_ _)
      all_goals first | (go_simp; done) | (go_simp; rfl)
    | placed k e1 =>
      change Code.wp _ _ _ { tmps := _, defers := _ } _
      have hval : (EV.placed k e1).val = .iface 88 (.agg #[.int .i64 k, e1.val]) := rfl
      rw [hval]
      clear hval
      obtain ⟨t1, v1, he1⟩ := e1.iface
      rw [he1]
      have HE1 := Lib.hid he1; clear he1
      have tO := typeOfP (.agg #[.int .i64 k, .iface t1 v1])
      have aT := assignablePC
      have q1 := taPAs (.agg #[.int .i64 k, .iface t1 v1])
      have q2 := taPUn (.agg #[.int .i64 k, .iface t1 v1])
      have uN := unP (.int .i64 k) (.iface t1 v1)
      go_wp2_with fail
      refine (placedUnwrap_any k t1 v1 _).mono ?_
      rintro r w1 ⟨rfl, hb1⟩
      go_wp2
      go_roundg (e1.depth)
      case measure => exact hd
      case rel => exact ⟨e1, HE1.out.symm, Nat.le_refl _, hr.out.trans rfl, hb.out.trans (hb1.mono hsz)⟩
end Go.Proofs.YtdclokpoeaehlaaGreatDoor
