/- errors.Is at a code and at a fault. -/
import Derived.Test.YtcegipkhmibdeaaDoorFaultAs
namespace Go.Proofs.YtcegipkhmibdeaaDoor
set_option linter.all false
open Go.RowKit Go.Extern.Stop Go.Stop Go.Extern

/-- Is the error's own value the code, the fault? -/
def EV.isC (d : Int) : EV → Bool
  | .code c => c == d
  | .fault c _ => c == d
  | .other _ => false
  | .placed _ e => e.isC d
def EV.isF (d b : Int) : EV → Bool
  | .code _ => false
  | .fault c a => c == d && a == b
  | .other _ => false
  | .placed _ e => e.isF d b
theorem eqCC (c d : Int) (w : World) : (binOp .eql 47 (.iface 94 (.int .i64 c)) (.iface 94 (.int .i64 d))).run Tryd.prog w = .ok (.bool (c == d)) w := by
  kernel_rfl
theorem partF1 (x y : Int) (w : World) : (part 94 #[.int .i64 x, .int .i64 y] 0).run Tryd.prog w = .ok (.int .i64 x) w := by kernel_rfl
theorem partF2 (x y : Int) (w : World) : (part 3 #[.int .i64 x, .int .i64 y] 1).run Tryd.prog w = .ok (.int .i64 y) w := by kernel_rfl
theorem equalF (n : Nat) (p e p' e' : Int) (w : World) : (Op.equalIn (n + 2) 106 (.agg #[.int .i64 p, .int .i64 e]) (.agg #[.int .i64 p', .int .i64 e'])).run Tryd.prog w = .ok (p == p' && e == e') w := by
  have h : Tryd.prog.underlying 106 = some (.struct (Tryd.prog.fieldsOf 106)) := by kernel_rfl
  have hs : Tryd.prog.stoodInHeld 106 = false := by kernel_rfl
  rw [run_equalIn_struct w (n + 1) 106 _ _ h hs]
  simp only [Program.fieldsOf, Tryd.underlying106, Op.eqFields, Sem.run_bind, Sem.run_ite, partF1, partF2, Result.andThen_ok, run_equalIn_int w n 94 .i64 .i64 _ _ Tryd.underlying94, run_equalIn_int w n 3 .i64 .i64 _ _ Tryd.underlying3, Sem.run_pure]
  cases p == p' <;> cases e == e' <;> simp [Sem.run_pure, Op.eqFields, Result.andThen_ok]
theorem infoF : (Tryd.prog.info? 106).map (fun i => i.comparable) = some true := by kernel_rfl
theorem eqFF (c d a b : Int) (w : World) : (binOp .eql 47 (.iface 106 (.agg #[.int .i64 c, .int .i64 a])) (.iface 106 (.agg #[.int .i64 d, .int .i64 b]))).run Tryd.prog w = .ok (.bool (c == d && a == b)) w := by
  obtain ⟨i, hi, hc⟩ : ∃ i, Tryd.prog.info? 106 = some i ∧ i.comparable = true := by
    have h := infoF
    cases hx : Tryd.prog.info? 106 with
    | none => rw [hx] at h; cases h
    | some i => rw [hx] at h; exact ⟨i, rfl, Option.some.inj h⟩
  simp only [binOp]
  have h : (Op.equalIn 10000 47 (.iface 106 (.agg #[.int .i64 c, .int .i64 a])) (.iface 106 (.agg #[.int .i64 d, .int .i64 b]))).run Tryd.prog w = .ok (c == d && a == b) w := by
    have h1 := equalF 9997 c a d b w
    rw [Op.equalIn]
    simp [run_underlying Tryd.underlying47, typeInfo, hi, hc, h1]
  simp [Op.equal, Op.maxDepth, h]
theorem methodComparable (h : Value) (w : World) : (Go.method 329 172 (.agg #[h]) "Comparable").run Tryd.prog w = .ok (171, .agg #[h]) w := by kernel_rfl
theorem comparableC (w : World) : (ReflectliteType.method (fun t => do Rtype.noPackHeld "Comparable" t; (fun a => Value.bool a.comparable) <$> typeInfo t) #[.agg #[.pointer (some ⟨7, 94, none⟩)]]).run Tryd.prog w = .ok (.bool true) w := by kernel_rfl
theorem comparableF (w : World) : (ReflectliteType.method (fun t => do Rtype.noPackHeld "Comparable" t; (fun a => Value.bool a.comparable) <$> typeInfo t) #[.agg #[.pointer (some ⟨7, 106, none⟩)]]).run Tryd.prog w = .ok (.bool true) w := by kernel_rfl
set_option maxHeartbeats 4000000 in
set_option maxRecDepth 100000 in
theorem isC_any (e : EV) (d : Int) (w : World) :
    Calls Tryd.prog 113 #[e.val, .iface 94 (.int .i64 d), .bool true] w fun r w' => r = .returned (.bool (e.isC d)) ∧ Below w.heap.size w w' := by
  obtain ⟨t0, v0, he0⟩ := e.iface
  rw [he0]
  have HE := Lib.hid he0; clear he0
  go_enter Tryd.func113, Tryd.ntmps113
  go_wp2
  go_loopg [0] e.depth (fun gg x wr => ∃ e' : EV, x = e'.val ∧ e'.depth ≤ gg ∧ Hid (e.isC d = e'.isC d) ∧ Aside (Below w.heap.size w wr))
  case atStart => exact ⟨e, HE.out.symm, Nat.le_refl _, rfl, Below.refl _ _⟩
  case round =>
    obtain ⟨e', rfl, hd, hr, hb⟩ := hrel
    have hsz := hb.out.size
    cases e' with
    | code c =>
      change Code.wp _ _ _ { tmps := _, defers := _ } _
      have hval : (EV.code c).val = .iface 94 (.int .i64 c) := rfl
      rw [hval]
      clear hval
      have q0 := eqCC c d
      have q1 := taCIs (.int .i64 c)
      have q2 := taCUn (.int .i64 c)
      have q3 := taCUs (.int .i64 c)
      cases hcd : (c == d)
      all_goals
        go_wp2
        go_ret
        exact ⟨by rw [hr.out]; show _ = Ending.returned (.bool (c == d)); rw [hcd]; rfl, hb.out⟩
    | fault c a =>
      change Code.wp _ _ _ { tmps := _, defers := _ } _
      have hval : (EV.fault c a).val = .iface 106 (.agg #[.int .i64 c, .int .i64 a]) := rfl
      rw [hval]
      clear hval
      have q1 := taFIs (.agg #[.int .i64 c, .int .i64 a])
      have q2 := taFUn (.agg #[.int .i64 c, .int .i64 a])
      have uN := unF (.int .i64 c) (.int .i64 a)
      have q0 := run_eql_iface_types (P := Tryd.prog) 106 94 (.agg #[.int .i64 c, .int .i64 a]) (.int .i64 d) Tryd.underlying47 (by decide)
      go_wp2_with fail
      refine (faultUnwrap_any c a _).mono ?_
      rintro r w1 ⟨rfl, hb1⟩
      go_wp2
      go_roundg (0)
      case measure => exact hd
      case rel => exact ⟨EV.code c, rfl, Nat.le_refl _, hr.out.trans rfl, hb.out.trans (hb1.mono hsz)⟩
    | other p =>
      change Code.wp _ _ _ { tmps := _, defers := _ } _
      have hval : (EV.other p).val = .iface 148 (.pointer (some p)) := rfl
      rw [hval]
      clear hval
      have q0 := run_eql_iface_types (P := Tryd.prog) 148 94 (.pointer (some p)) (.int .i64 d) Tryd.underlying47 (by decide)
      have q1 := taOIs (.pointer (some p))
      have q2 := taOUn (.pointer (some p))
      have q3 := taOUs (.pointer (some p))
      go_wp2
      go_ret
      exact ⟨by rw [hr.out]; rfl, hb.out⟩
    | placed k e1 =>
      change Code.wp _ _ _ { tmps := _, defers := _ } _
      have hval : (EV.placed k e1).val = .iface 140 (.agg #[.int .i64 k, e1.val]) := rfl
      rw [hval]
      clear hval
      obtain ⟨t1, v1, he1⟩ := e1.iface
      rw [he1]
      have HE1 := Lib.hid he1; clear he1
      have q0 := run_eql_iface_types (P := Tryd.prog) 140 94 (.agg #[.int .i64 k, .iface t1 v1]) (.int .i64 d) Tryd.underlying47 (by decide)
      have q1 := taPIs (.agg #[.int .i64 k, .iface t1 v1])
      have q2 := taPUn (.agg #[.int .i64 k, .iface t1 v1])
      have uN := unP (.int .i64 k) (.iface t1 v1)
      go_wp2_with fail
      refine (placedUnwrap_any k t1 v1 _).mono ?_
      rintro r w1 ⟨rfl, hb1⟩
      go_wp2
      go_roundg (e1.depth)
      case measure => exact hd
      case rel => exact ⟨e1, HE1.out.symm, Nat.le_refl _, hr.out.trans rfl, hb.out.trans (hb1.mono hsz)⟩
set_option maxHeartbeats 2000000 in
set_option maxRecDepth 100000 in
theorem errorsIsC_any (e : EV) (d : Int) (w : World) :
    Calls Tryd.prog 85 #[e.val, .iface 94 (.int .i64 d)] w fun r w' => r = .returned (.bool (e.isC d)) ∧ Below w.heap.size w w' := by
  have HI := Lib.hid (isC_any e d)
  obtain ⟨t0, v0, he0⟩ := e.iface
  rw [he0] at HI ⊢
  clear he0
  generalize e.isC d = res at *
  have x112 := @run_callFunc_extern Tryd.prog 112 _ ReflectliteType.typeOf Tryd.func112 (by kernel_rfl) (by kernel_rfl) (by kernel_rfl) (by kernel_rfl)
  have xc := @run_callFunc_extern Tryd.prog 171 _ (ReflectliteType.method (fun t => do Rtype.noPackHeld "Comparable" t; pure (.bool (← typeInfo t).comparable))) Tryd.func171 (by kernel_rfl) (by kernel_rfl) (by kernel_rfl) (by kernel_rfl)
  have tO := typeOfC (.int .i64 d)
  have mC := methodComparable
  have c1 := comparableC
  go_enter Tryd.func85, Tryd.ntmps85
  go_wp2_with fail
  refine (HI.out _).mono ?_
  rintro r w1 ⟨rfl, hb⟩
  go_wp2
  go_ret
  exact ⟨rfl, hb⟩
set_option maxHeartbeats 4000000 in
set_option maxRecDepth 100000 in
theorem isF_any (e : EV) (d b : Int) (w : World) :
    Calls Tryd.prog 113 #[e.val, .iface 106 (.agg #[.int .i64 d, .int .i64 b]), .bool true] w fun r w' => r = .returned (.bool (e.isF d b)) ∧ Below w.heap.size w w' := by
  obtain ⟨t0, v0, he0⟩ := e.iface
  rw [he0]
  have HE := Lib.hid he0; clear he0
  go_enter Tryd.func113, Tryd.ntmps113
  go_wp2
  go_loopg [0] e.depth (fun gg x wr => ∃ e' : EV, x = e'.val ∧ e'.depth ≤ gg ∧ Hid (e.isF d b = e'.isF d b) ∧ Aside (Below w.heap.size w wr))
  case atStart => exact ⟨e, HE.out.symm, Nat.le_refl _, rfl, Below.refl _ _⟩
  case round =>
    obtain ⟨e', rfl, hd, hr, hb⟩ := hrel
    have hsz := hb.out.size
    cases e' with
    | code c =>
      change Code.wp _ _ _ { tmps := _, defers := _ } _
      have hval : (EV.code c).val = .iface 94 (.int .i64 c) := rfl
      rw [hval]
      clear hval
      have q0 := run_eql_iface_types (P := Tryd.prog) 94 106 (.int .i64 c) (.agg #[.int .i64 d, .int .i64 b]) Tryd.underlying47 (by decide)
      have q1 := taCIs (.int .i64 c)
      have q2 := taCUn (.int .i64 c)
      have q3 := taCUs (.int .i64 c)
      go_wp2
      go_ret
      exact ⟨by rw [hr.out]; rfl, hb.out⟩
    | fault c a =>
      change Code.wp _ _ _ { tmps := _, defers := _ } _
      have hval : (EV.fault c a).val = .iface 106 (.agg #[.int .i64 c, .int .i64 a]) := rfl
      rw [hval]
      clear hval
      have q1 := taFIs (.agg #[.int .i64 c, .int .i64 a])
      have q2 := taFUn (.agg #[.int .i64 c, .int .i64 a])
      have uN := unF (.int .i64 c) (.int .i64 a)
      have q0 := eqFF c d a b
      cases hcd : (c == d && a == b)
      · rw [hcd] at q0
        go_wp2_with fail
        refine (faultUnwrap_any c a _).mono ?_
        rintro r w1 ⟨rfl, hb1⟩
        go_wp2
        go_roundg (0)
        case measure => exact hd
        case rel => exact ⟨EV.code c, rfl, Nat.le_refl _, hr.out.trans hcd, hb.out.trans (hb1.mono hsz)⟩
      · rw [hcd] at q0
        go_wp2
        go_ret
        exact ⟨by rw [hr.out]; show _ = Ending.returned (.bool (c == d && a == b)); rw [hcd]; rfl, hb.out⟩
    | other p =>
      change Code.wp _ _ _ { tmps := _, defers := _ } _
      have hval : (EV.other p).val = .iface 148 (.pointer (some p)) := rfl
      rw [hval]
      clear hval
      have q0 := run_eql_iface_types (P := Tryd.prog) 148 106 (.pointer (some p)) (.agg #[.int .i64 d, .int .i64 b]) Tryd.underlying47 (by decide)
      have q1 := taOIs (.pointer (some p))
      have q2 := taOUn (.pointer (some p))
      have q3 := taOUs (.pointer (some p))
      go_wp2
      go_ret
      exact ⟨by rw [hr.out]; rfl, hb.out⟩
    | placed k e1 =>
      change Code.wp _ _ _ { tmps := _, defers := _ } _
      have hval : (EV.placed k e1).val = .iface 140 (.agg #[.int .i64 k, e1.val]) := rfl
      rw [hval]
      clear hval
      obtain ⟨t1, v1, he1⟩ := e1.iface
      rw [he1]
      have HE1 := Lib.hid he1; clear he1
      have q0 := run_eql_iface_types (P := Tryd.prog) 140 106 (.agg #[.int .i64 k, .iface t1 v1]) (.agg #[.int .i64 d, .int .i64 b]) Tryd.underlying47 (by decide)
      have q1 := taPIs (.agg #[.int .i64 k, .iface t1 v1])
      have q2 := taPUn (.agg #[.int .i64 k, .iface t1 v1])
      have uN := unP (.int .i64 k) (.iface t1 v1)
      go_wp2_with fail
      refine (placedUnwrap_any k t1 v1 _).mono ?_
      rintro r w1 ⟨rfl, hb1⟩
      go_wp2
      go_roundg (e1.depth)
      case measure => exact hd
      case rel => exact ⟨e1, HE1.out.symm, Nat.le_refl _, hr.out.trans rfl, hb.out.trans (hb1.mono hsz)⟩
set_option maxHeartbeats 2000000 in
set_option maxRecDepth 100000 in
theorem errorsIsF_any (e : EV) (d b : Int) (w : World) :
    Calls Tryd.prog 85 #[e.val, .iface 106 (.agg #[.int .i64 d, .int .i64 b])] w fun r w' => r = .returned (.bool (e.isF d b)) ∧ Below w.heap.size w w' := by
  have HI := Lib.hid (isF_any e d b)
  obtain ⟨t0, v0, he0⟩ := e.iface
  rw [he0] at HI ⊢
  clear he0
  generalize e.isF d b = res at *
  have x112 := @run_callFunc_extern Tryd.prog 112 _ ReflectliteType.typeOf Tryd.func112 (by kernel_rfl) (by kernel_rfl) (by kernel_rfl) (by kernel_rfl)
  have xc := @run_callFunc_extern Tryd.prog 171 _ (ReflectliteType.method (fun t => do Rtype.noPackHeld "Comparable" t; pure (.bool (← typeInfo t).comparable))) Tryd.func171 (by kernel_rfl) (by kernel_rfl) (by kernel_rfl) (by kernel_rfl)
  have tO := typeOfF (.agg #[.int .i64 d, .int .i64 b])
  have mC := methodComparable
  have c1 := comparableF
  go_enter Tryd.func85, Tryd.ntmps85
  go_wp2_with fail
  refine (HI.out _).mono ?_
  rintro r w1 ⟨rfl, hb⟩
  go_wp2
  go_ret
  exact ⟨rfl, hb⟩
/-- An error is harmless if its code is 5, 6 or 7. -/
def harmlessE (e : Option EV) : Bool := match e.bind EV.asC with | some c => c == 5 || c == 6 || c == 7 | none => false
theorem isC_asC {e : EV} {c : Int} (h : e.asC = some c) : e.isC c = true := by
  induction e with
  | code d => simp [EV.asC] at h; simp [EV.isC, h]
  | fault d a => simp [EV.asC] at h; simp [EV.isC, h]
  | other p => simp [EV.asC] at h
  | placed k e ih => exact ih h
set_option maxHeartbeats 2000000 in
set_option maxRecDepth 100000 in
theorem harmless_any (e : Option EV) (w : World) (hE : ErrType w) : Calls Tryd.prog 78 #[errV e] w fun r w' => r = .returned (.bool (harmlessE e)) ∧ Below w.heap.size w w' := by
  have hc := faultCode_any e w hE
  unfold harmlessE
  cases ho : e.bind EV.asC with
  | none =>
    rw [ho] at hc
    have HC := Lib.hid hc; clear hc
    generalize errV e = v at *
    clear ho
    go_enter Tryd.func78, Tryd.ntmps78
    go_wp2_with fail
    refine HC.out.mono ?_
    rintro r w1 ⟨rfl, hb⟩
    go_wp2
    go_ret
    exact ⟨rfl, hb⟩
  | some c =>
    cases e with
    | none => cases ho
    | some e =>
    rw [ho] at hc
    have HI := Lib.hid (fun w => errorsIsC_any e c w)
    have h1 := isC_asC (e := e) (c := c) ho
    rw [h1] at HI
    have HC := Lib.hid hc; clear hc
    obtain ⟨t0, v0, he0⟩ := e.iface
    have he1 : errV (some e) = .iface t0 v0 := he0
    rw [he1] at HC ⊢
    rw [he0] at HI
    clear ho h1 he0 he1
    by_cases h5 : c = 5
    · subst h5
      go_enter Tryd.func78, Tryd.ntmps78
      go_wp2_with fail
      refine HC.out.mono ?_
      rintro r w1 ⟨rfl, hb⟩
      go_wp2_with fail
      refine (HI.out _).mono ?_
      rintro r w2 ⟨rfl, hb2⟩
      go_wp2
      go_ret
      exact ⟨rfl, hb.trans (hb2.mono hb.size)⟩
    by_cases h6 : c = 6
    · subst h6
      go_enter Tryd.func78, Tryd.ntmps78
      go_wp2_with fail
      refine HC.out.mono ?_
      rintro r w1 ⟨rfl, hb⟩
      go_wp2_with fail
      refine (HI.out _).mono ?_
      rintro r w2 ⟨rfl, hb2⟩
      go_wp2
      go_ret
      exact ⟨rfl, hb.trans (hb2.mono hb.size)⟩
    by_cases h7 : c = 7
    · subst h7
      go_enter Tryd.func78, Tryd.ntmps78
      go_wp2_with fail
      refine HC.out.mono ?_
      rintro r w1 ⟨rfl, hb⟩
      go_wp2_with fail
      refine (HI.out _).mono ?_
      rintro r w2 ⟨rfl, hb2⟩
      go_wp2
      go_ret
      exact ⟨rfl, hb.trans (hb2.mono hb.size)⟩
    have e : (c == 5 || c == 6 || c == 7) = false := by simp [h5, h6, h7]
    simp only [e]
    clear e
    go_enter Tryd.func78, Tryd.ntmps78
    go_wp2_with fail
    refine HC.out.mono ?_
    rintro r w1 ⟨rfl, hb⟩
    go_wp2
    go_ret
    exact ⟨rfl, hb⟩
end Go.Proofs.YtcegipkhmibdeaaDoor
