/- Node of awake's cluster; slices.Sort of one int. -/
import Derived.Test.YtllipidegjpidaaGreatDoorJO
import Derived.Test.YtllipidegjpidaaGreatDoorJI
import Derived.Maps.Range
namespace Go.Proofs.YtllipidegjpidaaGreatDoor
set_option linter.all false
open Go.RowKit

theorem run_getI {P : Program} {w : World} {r : Nat} {a : Option Nat} {b d : Nat} {c : Array Nat} (h : w.heap[r]? = some (.mapIter a b c d)) : (getObj r).run P w = .ok (.mapIter a b c d) w := by simp [getObj, Sem.run, h]
theorem run_setI {P : Program} {w : World} {r : Nat} {a : Option Nat} {b d : Nat} {c : Array Nat} (o' : Obj) (h : w.heap[r]? = some (.mapIter a b c d)) : (setObj r o').run P w = .ok () { w with heap := w.heap.setIfInBounds r o' } := by simp [setObj, Sem.run, h]
theorem range_one {w : World} {m : Nat} {es : Array MapEntry} {c : Nat} (h : w.heap[m]? = some (.map es c)) :
    (Instr.range 140 (.map (some m))).run Tryz.prog w = .ok (.pointer (some ⟨w.heap.size, 0, none⟩)) (w.alloc (.mapIter (some m) c #[] c)) := by
  simp [Instr.range, run_underlying Tryz.underlying140, MapKept.run_getObj_map h, Result.andThen]
theorem next_one {w : World} {r m c0 c : Nat} {e : MapEntry} {ty : TypeId} (hr : w.heap[r]? = some (.mapIter (some m) c0 #[] c0)) (hm : w.heap[m]? = some (.map #[e] c)) (hb : e.born < c0) :
    (Instr.next (.pointer (some ⟨r, 0, none⟩)) false ty).run Tryz.prog w = .ok (.tuple #[.bool true, e.key, e.val]) { w with heap := w.heap.setIfInBounds r (.mapIter (some m) c0 #[e.born] c) } := by
  have h1 : ¬ c0 ≤ e.born := by omega
  simp [Instr.next, run_getI hr, MapKept.run_getObj_map hm, run_setI _ hr, Result.andThen, hb, h1, Question.forced]
theorem next_end {w : World} {r m c0 c : Nat} {e : MapEntry} {ty : TypeId} (hr : w.heap[r]? = some (.mapIter (some m) c0 #[e.born] c)) (hm : w.heap[m]? = some (.map #[e] c)) (hb : e.born < c) :
    (Instr.next (.pointer (some ⟨r, 0, none⟩)) false ty).run Tryz.prog w = .ok (.tuple #[.bool false]) w := by
  have h1 : ¬ c ≤ e.born := by omega
  simp [Instr.next, run_getI hr, MapKept.run_getObj_map hm, Result.andThen, h1, Question.forced]
theorem entry_one {w : World} {r m c0 c : Nat} {e : MapEntry} (hr : w.heap[r]? = some (.mapIter (some m) c0 #[e.born] c)) (hm : w.heap[m]? = some (.map #[e] c)) :
    (Instr.entry (.pointer (some ⟨r, 0, none⟩))).run Tryz.prog w = .ok (.tuple #[e.key, e.val]) w := by
  simp [Instr.entry, run_getI hr, MapKept.run_getObj_map hm, Result.andThen]
/-- A map of one entry, as it lies. -/
theorem mapI_one {w : World} {bm : Nat} {k : Int} {v : Value} (h : MapI w bm [(k, v)]) : ∃ e c, w.heap[bm]? = some (.map #[e] c) ∧ e.key = .int .i64 k ∧ e.val = v ∧ e.born < c := by
  obtain ⟨es, c, hb, he, hst⟩ := h
  obtain ⟨l⟩ := es
  match l, he, hb, hst with
  | [], he, _, _ => simp at he
  | _ :: _ :: _, he, _, _ => simp at he
  | [e], he, hb, hst =>
    simp only [List.map_cons, List.map_nil, List.cons.injEq, Prod.mk.injEq, and_true] at he
    exact ⟨e, c, hb, he.1, he.2, hst e (by simp)⟩

abbrev nodeVal (b o c : Nat) : Value := .agg #[.int .i64 7, .slice (some ⟨b, o, none⟩) 1 c]
set_option maxRecDepth 100000 in
theorem nnodes_any {ids : Value} {kp kn : List (Int × Value)} (b : Nat) (w : World) (h : Cl w b ids kp kn) : Calls Tryz.prog 122 #[.pointer (some ⟨b + 5, 0, none⟩)] w fun e w' => e = .returned (.pointer (some ⟨b + 4, 0, none⟩)) ∧ w = w' := by
  have s1 := h.s1
  clear h
  go_enter Tryz.func122, Tryz.ntmps122
  go_wp2
  go_ret
  exact ⟨rfl, rfl⟩
set_option maxHeartbeats 4000000 in
set_option maxRecDepth 100000 in
theorem nodeGet_any (b : Nat) (w : World) (h : ClF w b) : Calls Tryz.prog 90 #[.pointer (some ⟨b + 5, 0, none⟩), .int .i64 7] w fun e w' => ∃ b' o' c', e = .returned (.tuple #[nodeVal b' o' c', .bool true]) ∧ w'.cell? ⟨b', o', none⟩ = some (.int .i64 5) ∧ w.heap.size ≤ b' ∧ Below w.heap.size w w' := by
  obtain ⟨br, orr, cr, bi, ci, b1, o1, c1, b2, o2, c2, hcl, -, -, q5, -⟩ := h
  have HN : Hid (∀ X, From w X → Calls Tryz.prog 122 #[.pointer (some ⟨b + 5, 0, none⟩)] X fun e w' => e = .returned (.pointer (some ⟨b + 4, 0, none⟩)) ∧ X = w') := fun X f => nnodes_any b X (hcl.below f.out)
  have HG : Hid (∀ X, From w X → Calls Tryz.prog 118 #[.pointer (some ⟨b + 4, 0, none⟩), .int .i64 7] X fun e w' => e = .returned (.tuple #[entVal 7 (some ⟨b1, o1, none⟩) 1 c1 (some ⟨b2, o2, none⟩) 1 c2, .bool true]) ∧ From X w') := fun X f => tgetE_any (b + 3) (b + 4) 7 7 (some ⟨b1, o1, none⟩) 1 c1 (some ⟨b2, o2, none⟩) 1 c2 true X ((hcl.below f.out).u1) (lookE7 (hcl.below f.out).mn)
  have HC : Hid (∀ X, From w X → Calls Tryz.prog 49 #[.slice (some ⟨b1, o1, none⟩) 1 c1] X fun e w' => ∃ b' o' c', e = .returned (.slice (some ⟨b', o', none⟩) 1 c') ∧ w'.cell? ⟨b', o', none⟩ = some (.int .i64 5) ∧ X.heap.size ≤ b' ∧ Below X.heap.size X w') := fun X f => clone1_any 5 b1 o1 c1 X (f.cell q5)
  clear hcl q5
  go_enter Tryz.func90, Tryz.ntmps90
  go_wp2_with fail
  refine calls_named fun X1 hX1 => ?_
  have F1 : From w X1 := by rw [hX1]; exact (From.refl w).alloc _
  have z0 : X1.cell? ⟨w.heap.size, 0, none⟩ = some (.int .i64 0) := by rw [hX1]; go_simp
  have k0 : X1.frozen? ⟨w.heap.size, 0, none⟩ = false := by rw [hX1]; go_simp
  have z1 : X1.cell? ⟨w.heap.size, 1, none⟩ = some (.slice none 0 0) := by rw [hX1]; go_simp
  have k1 : X1.frozen? ⟨w.heap.size, 1, none⟩ = false := by rw [hX1]; go_simp
  have hs1 := cell_lt z0
  clear hX1
  refine (HN.out _ F1).mono ?_
  rintro e W0 ⟨rfl, rfl⟩
  go_wp2_with fail
  refine (HG.out _ F1).mono ?_
  rintro e W1 ⟨rfl, f1⟩
  have z0 := f1.cell z0
  have k0 := (f1.out.frozen (p := ⟨w.heap.size, 0, none⟩) hs1).trans k0
  have z1 := f1.cell z1
  have k1 := (f1.out.frozen (p := ⟨w.heap.size, 1, none⟩) hs1).trans k1
  have HF := Lib.hid (F1.trans f1)
  clear F1 f1
  go_wp2
  refine wp_named fun X2 hX2 => ?_
  have f2 : From W1 X2 := by rw [hX2]; exact (From.refl _).alloc _
  have y0 : X2.cell? ⟨W1.heap.size, 0, none⟩ = some (.int .i64 7) := by rw [hX2]; go_simp
  have y1 : X2.cell? ⟨W1.heap.size, 1, none⟩ = some (.slice (some ⟨b1, o1, none⟩) 1 c1) := by rw [hX2]; go_simp
  have hs2 := cell_lt z0
  have z0 := f2.cell z0
  have k0 := (f2.out.frozen (p := ⟨w.heap.size, 0, none⟩) hs2).trans k0
  have z1 := f2.cell z1
  have k1 := (f2.out.frozen (p := ⟨w.heap.size, 1, none⟩) hs2).trans k1
  have HX := Lib.hid (HF.out.trans f2)
  have hls : w.heap.size < X2.heap.size := cell_lt z0
  have hwx := f2.out.size
  clear hX2 f2
  have HK : Hid (∀ w', From X2 w' → (w'.cell? ⟨W1.heap.size, 0, none⟩ = some (.int .i64 7) ∧ w'.cell? ⟨W1.heap.size, 1, none⟩ = some (.slice (some ⟨b1, o1, none⟩) 1 c1))) := fun w' hf => ⟨hf.cell y0, hf.cell y1⟩
  have hv0 : From X2 X2 := From.refl X2
  have hv1 : From X2 X2.drew := hv0.drew
  have n1 : ¬ W1.heap.size = w.heap.size := by omega
  have n2 : ¬ w.heap.size = W1.heap.size := by omega
  go_region_held3 (fun w' => (w'.cell? ⟨W1.heap.size, 0, none⟩ = some (.int .i64 7) ∧ w'.cell? ⟨W1.heap.size, 1, none⟩ = some (.slice (some ⟨b1, o1, none⟩) 1 c1)))
    (first
      | (with_reducible exact HK.out _ hv2)
      | (with_reducible exact HK.out _ hv1)
      | (with_reducible exact HK.out _ hv0)
      | go_keep
      | fail)
    (first
      | (go_at_call 49; ((with_reducible refine (HC.out _ (HX.out.trans hv1)).mono ?_)); rintro e v2 ⟨b', o', c', rfl, hc, hlb, hb⟩; have hv2 : From X2 v2 := hv1.step hb; clear hb; have Z0 := hv2.cell z0; have Z1 := hv2.cell z1; have K0 := (hv2.out.frozen (p := ⟨w.heap.size, 0, none⟩) hls).trans k0; have K1 := (hv2.out.frozen (p := ⟨w.heap.size, 1, none⟩) hls).trans k1; have Y0 := hv2.cell y0; have Y1 := hv2.cell y1)
      | fail)
  have HR := Lib.hid (HX.out.trans hv2)
  have HQ := Lib.hid hc
  have hlx : X2.heap.size ≤ b' := by have := hv1.out.size; omega
  have hne : w.heap.size < b' := by omega
  clear hc hv0 hv1 hv2 HK z0 z1 k0 k1 y0 y1
  go_wp2
  refine bodyPost_ret (v := .tuple #[nodeVal b' o' c', .bool true]) ?_ rfl ?_
  · simp only [results, Tryz.results90]; go_simp
  · have h0 := HR.out.out
    refine ⟨_, _, _, rfl, ?_, by omega, ?_⟩
    · have c7 := HQ.out
      repeat (first | (with_reducible exact c7) | (with_reducible refine Upd.cell (Upd.setCell _ _ _ _) (by omega) ?_))
    repeat (first | (with_reducible exact h0) | (with_reducible refine below_set ?_ (Nat.le_refl _) _))
set_option maxHeartbeats 4000000 in
set_option maxRecDepth 100000 in
theorem cnode_any (b : Nat) (w : World) (h : ClF w b) : Calls Tryz.prog 142 #[.pointer (some ⟨b + 6, 0, none⟩), .int .i64 7] w fun e w' => ∃ b' o' c', e = .returned (.tuple #[nodeVal b' o' c', .bool true]) ∧ w'.cell? ⟨b', o', none⟩ = some (.int .i64 5) ∧ w.heap.size ≤ b' ∧ Below w.heap.size w w' := by
  have HS : Hid (∀ X, From w X → Calls Tryz.prog 31 #[.pointer (some ⟨b + 6, 0, none⟩)] X fun e w' => e = .returned (.agg #[.pointer (some ⟨b + 2, 0, none⟩), .pointer (some ⟨b + 5, 0, none⟩)]) ∧ From X w') := fun X f => by
    obtain ⟨br, orr, cr, bi, ci, b1, o1, c1, b2, o2, c2, hcl, -⟩ := h
    exact state_any b X (hcl.below f.out)
  have HG : Hid (∀ X, From w X → Calls Tryz.prog 90 #[.pointer (some ⟨b + 5, 0, none⟩), .int .i64 7] X fun e w' => ∃ b' o' c', e = .returned (.tuple #[nodeVal b' o' c', .bool true]) ∧ w'.cell? ⟨b', o', none⟩ = some (.int .i64 5) ∧ X.heap.size ≤ b' ∧ Below X.heap.size X w') := fun X f => nodeGet_any b X (h.below f.out)
  have hf1 := stateField1 (some ⟨b + 2, 0, none⟩) (some ⟨b + 5, 0, none⟩)
  clear h
  go_enter Tryz.func142, Tryz.ntmps142
  go_wp2_with fail
  refine calls_named fun X1 hX1 => ?_
  have F1 : From w X1 := by rw [hX1]; exact (From.refl w).alloc _
  have z0 : X1.cell? ⟨w.heap.size, 0, none⟩ = some (.int .i64 0) := by rw [hX1]; go_simp
  have k0 : X1.frozen? ⟨w.heap.size, 0, none⟩ = false := by rw [hX1]; go_simp
  have z1 : X1.cell? ⟨w.heap.size, 1, none⟩ = some (.slice none 0 0) := by rw [hX1]; go_simp
  have k1 : X1.frozen? ⟨w.heap.size, 1, none⟩ = false := by rw [hX1]; go_simp
  have hs1 := cell_lt z0
  clear hX1
  refine (HS.out _ F1).mono ?_
  rintro e W1 ⟨rfl, f1⟩
  have z0 := f1.cell z0
  have k0 := (f1.out.frozen (p := ⟨w.heap.size, 0, none⟩) hs1).trans k0
  have z1 := f1.cell z1
  have k1 := (f1.out.frozen (p := ⟨w.heap.size, 1, none⟩) hs1).trans k1
  have HF := Lib.hid (F1.trans f1)
  have hs2 := cell_lt z0
  clear F1 f1
  go_wp2_with fail
  refine (HG.out _ HF.out).mono ?_
  rintro e W3 ⟨b', o', c', rfl, hc, hlb, hb⟩
  have f3 : From W1 W3 := ⟨hb⟩
  have z0 := f3.cell z0
  have k0 := (f3.out.frozen (p := ⟨w.heap.size, 0, none⟩) hs2).trans k0
  have z1 := f3.cell z1
  have k1 := (f3.out.frozen (p := ⟨w.heap.size, 1, none⟩) hs2).trans k1
  have HF3 := Lib.hid (HF.out.trans f3)
  have HQ := Lib.hid hc
  have hne : w.heap.size < b' := by omega
  clear f3 hb hc hlb
  go_wp2
  refine bodyPost_ret (v := .tuple #[nodeVal b' o' c', .bool true]) ?_ rfl ?_
  · simp only [results, Tryz.results142]; go_simp
  · have h0 := HF3.out.out
    refine ⟨_, _, _, rfl, ?_, by omega, ?_⟩
    · have c7 := HQ.out
      repeat (first | (with_reducible exact c7) | (with_reducible refine Upd.cell (Upd.setCell _ _ _ _) (by omega) ?_))
    repeat (first | (with_reducible exact h0) | (with_reducible refine below_set ?_ (Nat.le_refl _) _))
set_option maxRecDepth 100000 in
theorem ins1_any (b o c : Nat) (w : World) : Calls Tryz.prog 195 #[.slice (some ⟨b, o, none⟩) 1 c, .int .i64 0, .int .i64 1] w fun e w' => (∃ v, e = .returned v) ∧ w = w' := by
  go_enter Tryz.func195, Tryz.ntmps195
  go_wp2
  refine wp_loop_rounds 1 ?_
  rw [rounds_succ]
  go_wp2
  go_end0
  exact ⟨⟨_, rfl⟩, rfl⟩
set_option maxRecDepth 100000 in
theorem pdq1_any (b o c : Nat) (l : Int) (w : World) : Calls Tryz.prog 188 #[.slice (some ⟨b, o, none⟩) 1 c, .int .i64 0, .int .i64 1, .int .i64 l] w fun e w' => (∃ v, e = .returned v) ∧ w = w' := by
  have HI := Lib.hid (ins1_any b o c)
  go_enter Tryz.func188, Tryz.ntmps188
  go_wp2
  refine wp_loop_rounds 1 ?_
  rw [rounds_succ]
  go_wp2_with (go_at_call 195; refine (HI.out _).mono ?_; rintro e w1 ⟨⟨v, rfl⟩, rfl⟩)
  refine bodyPost_ret (v := .tuple #[]) (by simp only [results, Tryz.results188]; first | rfl | (go_simp; done) | (go_simp; rfl)) rfl ⟨⟨_, rfl⟩, rfl⟩
end Go.Proofs.YtllipidegjpidaaGreatDoor
