/- errors.as at the target *api.Fault. -/
import Derived.Test.YtdclokpoeaehlaaGreatDoorGi
namespace Go.Proofs.YtdclokpoeaehlaaGreatDoor
set_option linter.all false
open Go.RowKit Go.Extern.Stop Go.Stop Go.Extern

/-- What errors.as does to the world: nothing that was there, but the target where it finds. -/
def PostF (w : World) (tb : Nat) (o0 o1 : Value) (o : Option (Int × Int)) (w' : World) : Prop :=
  Below tb w w' ∧ w'.cell? ⟨tb, 0, none⟩ = some (match o with | some (c, _) => .int .i64 c | none => o0) ∧ w'.cell? ⟨tb, 1, none⟩ = some (match o with | some (_, a) => .int .i64 a | none => o1)
set_option maxHeartbeats 4000000 in
set_option maxRecDepth 100000 in
theorem asF_any (e : EV) (tb vb : Nat) (o0 o1 : Value) (w : World) (hv : w.cell? ⟨vb, 0, none⟩ = some (.pointer (some ⟨tb, 0, none⟩))) (ht0 : w.cell? ⟨tb, 0, none⟩ = some o0) (hf0 : w.frozen? ⟨tb, 0, none⟩ = false) (ht1 : w.cell? ⟨tb, 1, none⟩ = some o1) (hf1 : w.frozen? ⟨tb, 1, none⟩ = false) :
    Calls Tryz.prog 97 #[e.val, .iface 119 (.pointer (some ⟨tb, 0, none⟩)), .agg #[.pointer (some ⟨14, 119, none⟩), .pointer (some ⟨vb, 0, none⟩), .int .u64 150], .iface 149 (.agg #[.pointer (some ⟨14, 113, none⟩)])] w fun r w' => r = .returned (.bool e.asF.isSome) ∧ PostF w tb o0 o1 e.asF w' := by
  have hvl := World.block_lt_of_cell? w _ hv
  have htl := World.block_lt_of_cell? w _ ht0
  simp only at hvl htl
  obtain ⟨t0, v0, he0⟩ := e.iface
  rw [he0]
  have x112 := @run_callFunc_extern Tryz.prog 110 _ ReflectliteType.typeOf Tryz.func110 (by kernel_rfl) (by kernel_rfl) (by kernel_rfl) (by kernel_rfl)
  have x114 := @run_callFunc_extern Tryz.prog 94 _ (fun args => ReflectliteValue.unpack (args.getD 0 (.tuple #[]))) Tryz.func94 (by kernel_rfl) (by kernel_rfl) (by kernel_rfl) (by kernel_rfl)
  have xas := @run_callFunc_extern Tryz.prog 167 _ (ReflectliteType.relation "AssignableTo" ReflectliteType.assignableTo) Tryz.func167 (by kernel_rfl) (by kernel_rfl) (by kernel_rfl) (by kernel_rfl)
  have x123 := @run_callFunc_extern Tryz.prog 111 _ (ReflectliteValue.method (ReflectliteValue.valueError "reflectlite.Value.Elem" 0) ReflectliteValue.elem) Tryz.func111 (by kernel_rfl) (by kernel_rfl) (by kernel_rfl) (by kernel_rfl)
  have x124 := @run_callFunc_extern Tryz.prog 112 _ ReflectliteValue.set Tryz.func112 (by kernel_rfl) (by kernel_rfl) (by kernel_rfl) (by kernel_rfl)
  have mA := methodAssignableTo
  obtain ⟨w0, hw0⟩ : ∃ w0, w0 = w.alloc (.cells #[.pointer (some ⟨14, 119, none⟩), .pointer (some ⟨vb, 0, none⟩), .int .u64 150] 129) := ⟨_, rfl⟩
  have hB : Below w.heap.size w w0 := by rw [hw0]; exact (Below.refl _ w).alloc (Nat.le_refl _) _
  have hs : w0.heap.size = w.heap.size + 1 := by rw [hw0]; simp
  have b0 : w0.cell? ⟨w.heap.size, 0, none⟩ = some (.pointer (some ⟨14, 119, none⟩)) := by rw [hw0]; go_simp
  have b1 : w0.cell? ⟨w.heap.size, 1, none⟩ = some (.pointer (some ⟨vb, 0, none⟩)) := by rw [hw0]; go_simp
  have b2 : w0.cell? ⟨w.heap.size, 2, none⟩ = some (.int .u64 150) := by rw [hw0]; go_simp
  have v1 : w0.cell? ⟨vb, 0, none⟩ = some (.pointer (some ⟨tb, 0, none⟩)) := (hB.cell (p := ⟨vb, 0, none⟩) hvl).trans hv
  have t1 : w0.cell? ⟨tb, 0, none⟩ = some o0 := (hB.cell (p := ⟨tb, 0, none⟩) htl).trans ht0
  have f1 : w0.frozen? ⟨tb, 0, none⟩ = false := (hB.frozen (p := ⟨tb, 0, none⟩) htl).trans hf0
  have t2 : w0.cell? ⟨tb, 1, none⟩ = some o1 := (hB.cell (p := ⟨tb, 1, none⟩) htl).trans ht1
  have f2 : w0.frozen? ⟨tb, 1, none⟩ = false := (hB.frozen (p := ⟨tb, 1, none⟩) htl).trans hf1
  clear hv ht0 hf0 ht1 hf1
  have HE := Lib.hid he0; clear he0
  go_enter Tryz.func97, Tryz.ntmps97
  go_wp2
  change Code.wp _ _ _ _ (w.alloc (.cells #[.pointer (some ⟨14, 119, none⟩), .pointer (some ⟨vb, 0, none⟩), .int .u64 150] 129))
  rw [← hw0]
  clear hw0
  go_loopg [0] e.depth (fun gg x wr => ∃ e' : EV, x = e'.val ∧ e'.depth ≤ gg ∧ Hid (e.asF = e'.asF) ∧ Aside (Below w0.heap.size w0 wr))
  case atStart => exact ⟨e, HE.out.symm, Nat.le_refl _, rfl, Below.refl _ _⟩
  case round =>
    obtain ⟨e', rfl, hd, hr, hb⟩ := hrel
    have hsz := hb.out.size
    have c0 : wr.cell? ⟨w.heap.size, 0, none⟩ = some (.pointer (some ⟨14, 119, none⟩)) := (hb.out.cell (p := ⟨w.heap.size, 0, none⟩) (by show w.heap.size < _; omega)).trans b0
    have c1 : wr.cell? ⟨w.heap.size, 1, none⟩ = some (.pointer (some ⟨vb, 0, none⟩)) := (hb.out.cell (p := ⟨w.heap.size, 1, none⟩) (by show w.heap.size < _; omega)).trans b1
    have c2 : wr.cell? ⟨w.heap.size, 2, none⟩ = some (.int .u64 150) := (hb.out.cell (p := ⟨w.heap.size, 2, none⟩) (by show w.heap.size < _; omega)).trans b2
    have c3 : wr.cell? ⟨vb, 0, none⟩ = some (.pointer (some ⟨tb, 0, none⟩)) := (hb.out.cell (p := ⟨vb, 0, none⟩) (by show vb < _; omega)).trans v1
    have c4 : wr.cell? ⟨tb, 0, none⟩ = some o0 := (hb.out.cell (p := ⟨tb, 0, none⟩) (by show tb < _; omega)).trans t1
    have c5 : wr.frozen? ⟨tb, 0, none⟩ = false := (hb.out.frozen (p := ⟨tb, 0, none⟩) (by show tb < _; omega)).trans f1
    have c6 : wr.cell? ⟨tb, 1, none⟩ = some o1 := (hb.out.cell (p := ⟨tb, 1, none⟩) (by show tb < _; omega)).trans t2
    have c7 : wr.frozen? ⟨tb, 1, none⟩ = false := (hb.out.frozen (p := ⟨tb, 1, none⟩) (by show tb < _; omega)).trans f2
    clear t2 f2
    clear b0 b1 b2 v1 t1 f1
    have l1 : w.heap.size < wr.heap.size := by omega
    have l2 : vb < wr.heap.size := by omega
    have l3 : tb < wr.heap.size := by omega
    have hbw : Below tb w wr := (hB.trans (hb.out.mono hB.size)).mono (Nat.le_of_lt htl)
    cases e' with
    | code c =>
      change Code.wp _ _ _ { tmps := _, defers := _ } _
      have hval : (EV.code c).val = .iface 46 (.int .i64 c) := rfl
      rw [hval]
      clear hval
      have tO := typeOfC (.int .i64 c)
      have aT := assignableCF
      have q1 := taCAs (.int .i64 c)
      have q2 := taCUn (.int .i64 c)
      have q3 := taCUs (.int .i64 c)
      go_wp2
      go_ret
      refine ⟨by rw [hr.out]; rfl, ?_⟩
      rw [hr.out]
      refine ⟨?_, ?_, ?_⟩
      · repeat (first | exact hbw | (with_reducible refine Below.alloc ?_ (by simp; omega) _) | (with_reducible refine Below.setCell ?_ (by exact Nat.le_refl _) _) | with_reducible refine Below.drew ?_ | with_reducible refine below_drewN ?_ _)
      all_goals first | (go_simp; done) | (go_simp; rfl)
    | fault c a =>
      change Code.wp _ _ _ { tmps := _, defers := _ } _
      have hval : (EV.fault c a).val = .iface 113 (.agg #[.int .i64 c, .int .i64 a]) := rfl
      rw [hval]
      clear hval
      have tO := typeOfF (.agg #[.int .i64 c, .int .i64 a])
      have aT := assignableFF
      have uX := unpackF c a
      have eX := fun W => elemVF ⟨vb, 0, none⟩ ⟨tb, 0, none⟩ W
      have sX := fun nb W => setF tb nb c a o0 o1 W
      go_wp2
      go_ret
      refine ⟨by rw [hr.out]; rfl, ?_⟩
      rw [hr.out]
      refine ⟨?_, ?_, ?_⟩
      · repeat (first | exact hbw | (with_reducible refine Below.alloc ?_ (by simp; omega) _) | (with_reducible refine Below.setCell ?_ (by exact Nat.le_refl _) _) | with_reducible refine Below.drew ?_ | with_reducible refine below_drewN ?_ _)
      all_goals first | (go_simp; done) | (go_simp; rfl)
    | other p =>
      change Code.wp _ _ _ { tmps := _, defers := _ } _
      have hval : (EV.other p).val = .iface 89 (.pointer (some p)) := rfl
      rw [hval]
      clear hval
      have tO := typeOfO (.pointer (some p))
      have aT := assignableOF
      have q1 := taOAs (.pointer (some p))
      have q2 := taOUn (.pointer (some p))
      have q3 := taOUs (.pointer (some p))
      go_wp2
      go_ret
      refine ⟨by rw [hr.out]; rfl, ?_⟩
      rw [hr.out]
      refine ⟨?_, ?_, ?_⟩
      · repeat (first | exact hbw | (with_reducible refine Below.alloc ?_ (by simp; omega) _) | (with_reducible refine Below.setCell ?_ (by exact Nat.le_refl _) _) | with_reducible refine Below.drew ?_ | with_reducible refine below_drewN ?_ _)
      all_goals first | (go_simp; done) | (go_simp; rfl)
    | placed k e1 =>
      change Code.wp _ _ _ { tmps := _, defers := _ } _
      have hval : (EV.placed k e1).val = .iface 88 (.agg #[.int .i64 k, e1.val]) := rfl
      rw [hval]
      clear hval
      obtain ⟨t1, v1, he1⟩ := e1.iface
      rw [he1]
      have HE1 := Lib.hid he1; clear he1
      have tO := typeOfP (.agg #[.int .i64 k, .iface t1 v1])
      have aT := assignablePF
      have q1 := taPAs (.agg #[.int .i64 k, .iface t1 v1])
      have q2 := taPUn (.agg #[.int .i64 k, .iface t1 v1])
      have uN := unP (.int .i64 k) (.iface t1 v1)
      go_wp2_with fail
      refine (placedUnwrap_any k t1 v1 _).mono ?_
      rintro r w1 ⟨rfl, hb1⟩
      go_wp2
      go_roundg (e1.depth)
      case measure => exact hd
      case rel => exact ⟨e1, HE1.out.symm, Nat.le_refl _, hr.out.trans rfl, hb.out.trans (hb1.mono hsz)⟩
end Go.Proofs.YtdclokpoeaehlaaGreatDoor
