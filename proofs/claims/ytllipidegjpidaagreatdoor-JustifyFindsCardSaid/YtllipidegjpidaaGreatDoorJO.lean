/- What awake's cluster answers: Pod, Node. -/
import Derived.Test.YtllipidegjpidaaGreatDoorJN
namespace Go.Proofs.YtllipidegjpidaaGreatDoor
set_option linter.all false
open Go.RowKit

theorem lookP1 {w : World} {bm : Nat} {x : Value} (h : MapI w bm [(1, x)]) : ∀ X, From w X → (Instr.lookup 137 (.map (some bm)) (.int .i64 1) true).run Tryz.prog X = .ok (.tuple #[x, .bool true]) X := fun X f => lookP_some (h.below f.out) 1 x rfl
theorem lookP2 {w : World} {bm : Nat} {x : Value} (h : MapI w bm [(1, x)]) : ∀ X, From w X → (Instr.lookup 137 (.map (some bm)) (.int .i64 2) true).run Tryz.prog X = .ok (.tuple #[podVal 0 0 false 0 (.slice none 0 0) 0 0 0 0, .bool false]) X := fun X f => lookP_none (h.below f.out) 2 rfl
theorem lookE7 {w : World} {bm : Nat} {x : Value} (h : MapI w bm [(7, x)]) : ∀ X, From w X → (Instr.lookup 140 (.map (some bm)) (.int .i64 7) true).run Tryz.prog X = .ok (.tuple #[x, .bool true]) X := fun X f => lookE_some (h.below f.out) 7 x rfl
set_option maxHeartbeats 4000000 in
set_option maxRecDepth 100000 in
/-- pod.copied of the zero pod. -/
theorem copied0_any (w : World) : Calls Tryz.prog 56 #[podVal 0 0 false 0 (.slice none 0 0) 0 0 0 0] w fun e w' => e = .returned (podVal 0 0 false 0 (.slice none 0 0) 0 0 0 0) ∧ From w w' := by
  have HC := Lib.hid cloneNil_any
  go_enter Tryz.func56, Tryz.ntmps56
  go_wp2_with fail
  refine (HC.out _).mono ?_
  rintro e w1 ⟨rfl, rfl⟩
  go_wp2
  refine bodyPost_ret (v := podVal 0 0 false 0 (.slice none 0 0) 0 0 0 0) ?_ rfl ⟨rfl, ?_⟩
  · simp only [results, Tryz.results56]; go_simp
  · constructor
    have h0 := Below.refl w.heap.size w
    repeat (first | (with_reducible exact h0) | (with_reducible refine below_set ?_ (by simp) _) | (with_reducible refine Below.alloc ?_ (by simp) _))
set_option maxHeartbeats 4000000 in
set_option maxRecDepth 100000 in
theorem podGet1_any (b : Nat) (w : World) (h : ClF w b) : Calls Tryz.prog 41 #[.pointer (some ⟨b + 2, 0, none⟩), .int .i64 1] w fun e w' => ∃ b' o' c', e = .returned (.tuple #[podVal 1 0 false 0 (.slice (some ⟨b', o', none⟩) 1 c') 0 1 (-1) (-1), .bool true]) ∧ w'.cell? ⟨b', o', none⟩ = some (.int .i64 3) ∧ w.heap.size ≤ b' ∧ Below w.heap.size w w' := by
  obtain ⟨br, orr, cr, bi, ci, b1, o1, c1, b2, o2, c2, hcl, q3, -⟩ := h
  have HG : Hid (∀ X, From w X → Calls Tryz.prog 62 #[.pointer (some ⟨b + 1, 0, none⟩), .int .i64 1] X fun e w' => e = .returned (.tuple #[podVal 1 0 false 0 (.slice (some ⟨br, orr, none⟩) 1 cr) 0 1 (-1) (-1), .bool true]) ∧ From X w') := fun X f => tgetP_any b (b + 1) 1 1 0 false 0 (some ⟨br, orr, none⟩) 1 cr 0 1 (-1) (-1) true X ((hcl.below f.out).t1) (lookP1 (hcl.below f.out).mp)
  have HC : Hid (∀ X, From w X → Calls Tryz.prog 56 #[podVal 1 0 false 0 (.slice (some ⟨br, orr, none⟩) 1 cr) 0 1 (-1) (-1)] X fun e w' => ∃ b' o' c', e = .returned (podVal 1 0 false 0 (.slice (some ⟨b', o', none⟩) 1 c') 0 1 (-1) (-1)) ∧ w'.cell? ⟨b', o', none⟩ = some (.int .i64 3) ∧ X.heap.size ≤ b' ∧ Below X.heap.size X w') := fun X f => copied1_any 1 0 false 0 0 1 (-1) (-1) 3 br orr cr X (f.cell q3)
  have p0 := hcl.p0
  have hlt := hcl.lt
  have n1 : ¬ b + 2 = w.heap.size := by omega
  have n2 : b + 2 < w.heap.size := by omega
  clear hcl q3
  go_enter Tryz.func41, Tryz.ntmps41
  go_wp2_with fail
  refine calls_named fun X1 hX1 => ?_
  have F1 : From w X1 := by rw [hX1]; exact (From.refl w).alloc _
  have z0 : X1.cell? ⟨w.heap.size, 0, none⟩ = some (.int .i64 0) := by rw [hX1]; go_simp
  have k0 : X1.frozen? ⟨w.heap.size, 0, none⟩ = false := by rw [hX1]; go_simp
  have z1 : X1.cell? ⟨w.heap.size, 1, none⟩ = some (.int .i64 0) := by rw [hX1]; go_simp
  have k1 : X1.frozen? ⟨w.heap.size, 1, none⟩ = false := by rw [hX1]; go_simp
  have z2 : X1.cell? ⟨w.heap.size, 2, none⟩ = some (.bool false) := by rw [hX1]; go_simp
  have k2 : X1.frozen? ⟨w.heap.size, 2, none⟩ = false := by rw [hX1]; go_simp
  have z3 : X1.cell? ⟨w.heap.size, 3, none⟩ = some (.int .i64 0) := by rw [hX1]; go_simp
  have k3 : X1.frozen? ⟨w.heap.size, 3, none⟩ = false := by rw [hX1]; go_simp
  have z4 : X1.cell? ⟨w.heap.size, 4, none⟩ = some (.slice none 0 0) := by rw [hX1]; go_simp
  have k4 : X1.frozen? ⟨w.heap.size, 4, none⟩ = false := by rw [hX1]; go_simp
  have z5 : X1.cell? ⟨w.heap.size, 5, none⟩ = some (.int .i64 0) := by rw [hX1]; go_simp
  have k5 : X1.frozen? ⟨w.heap.size, 5, none⟩ = false := by rw [hX1]; go_simp
  have z6 : X1.cell? ⟨w.heap.size, 6, none⟩ = some (.int .i64 0) := by rw [hX1]; go_simp
  have k6 : X1.frozen? ⟨w.heap.size, 6, none⟩ = false := by rw [hX1]; go_simp
  have z7 : X1.cell? ⟨w.heap.size, 7, none⟩ = some (.int .i64 0) := by rw [hX1]; go_simp
  have k7 : X1.frozen? ⟨w.heap.size, 7, none⟩ = false := by rw [hX1]; go_simp
  have z8 : X1.cell? ⟨w.heap.size, 8, none⟩ = some (.int .i64 0) := by rw [hX1]; go_simp
  have k8 : X1.frozen? ⟨w.heap.size, 8, none⟩ = false := by rw [hX1]; go_simp
  have hs1 := cell_lt z0
  clear hX1
  refine (HG.out _ F1).mono ?_
  rintro e W1 ⟨rfl, f1⟩
  have z0 := f1.cell z0
  have k0 := (f1.out.frozen (p := ⟨w.heap.size, 0, none⟩) hs1).trans k0
  have z1 := f1.cell z1
  have k1 := (f1.out.frozen (p := ⟨w.heap.size, 1, none⟩) hs1).trans k1
  have z2 := f1.cell z2
  have k2 := (f1.out.frozen (p := ⟨w.heap.size, 2, none⟩) hs1).trans k2
  have z3 := f1.cell z3
  have k3 := (f1.out.frozen (p := ⟨w.heap.size, 3, none⟩) hs1).trans k3
  have z4 := f1.cell z4
  have k4 := (f1.out.frozen (p := ⟨w.heap.size, 4, none⟩) hs1).trans k4
  have z5 := f1.cell z5
  have k5 := (f1.out.frozen (p := ⟨w.heap.size, 5, none⟩) hs1).trans k5
  have z6 := f1.cell z6
  have k6 := (f1.out.frozen (p := ⟨w.heap.size, 6, none⟩) hs1).trans k6
  have z7 := f1.cell z7
  have k7 := (f1.out.frozen (p := ⟨w.heap.size, 7, none⟩) hs1).trans k7
  have z8 := f1.cell z8
  have k8 := (f1.out.frozen (p := ⟨w.heap.size, 8, none⟩) hs1).trans k8
  have HF := Lib.hid (F1.trans f1)
  clear F1 f1
  go_wp2_with fail
  refine calls_named fun X2 hX2 => ?_
  have f2 : From W1 X2 := by rw [hX2]; exact (From.refl _).alloc _
  have hs2 := cell_lt z0
  have z0 := f2.cell z0
  have k0 := (f2.out.frozen (p := ⟨w.heap.size, 0, none⟩) hs2).trans k0
  have z1 := f2.cell z1
  have k1 := (f2.out.frozen (p := ⟨w.heap.size, 1, none⟩) hs2).trans k1
  have z2 := f2.cell z2
  have k2 := (f2.out.frozen (p := ⟨w.heap.size, 2, none⟩) hs2).trans k2
  have z3 := f2.cell z3
  have k3 := (f2.out.frozen (p := ⟨w.heap.size, 3, none⟩) hs2).trans k3
  have z4 := f2.cell z4
  have k4 := (f2.out.frozen (p := ⟨w.heap.size, 4, none⟩) hs2).trans k4
  have z5 := f2.cell z5
  have k5 := (f2.out.frozen (p := ⟨w.heap.size, 5, none⟩) hs2).trans k5
  have z6 := f2.cell z6
  have k6 := (f2.out.frozen (p := ⟨w.heap.size, 6, none⟩) hs2).trans k6
  have z7 := f2.cell z7
  have k7 := (f2.out.frozen (p := ⟨w.heap.size, 7, none⟩) hs2).trans k7
  have z8 := f2.cell z8
  have k8 := (f2.out.frozen (p := ⟨w.heap.size, 8, none⟩) hs2).trans k8
  clear hX2
  refine (HC.out _ (HF.out.trans f2)).mono ?_
  rintro e W3 ⟨b', o', c', rfl, hc, hlb, hb⟩
  have f3 : From X2 W3 := ⟨hb⟩
  have hs3 := cell_lt z0
  have z0 := f3.cell z0
  have k0 := (f3.out.frozen (p := ⟨w.heap.size, 0, none⟩) hs3).trans k0
  have z1 := f3.cell z1
  have k1 := (f3.out.frozen (p := ⟨w.heap.size, 1, none⟩) hs3).trans k1
  have z2 := f3.cell z2
  have k2 := (f3.out.frozen (p := ⟨w.heap.size, 2, none⟩) hs3).trans k2
  have z3 := f3.cell z3
  have k3 := (f3.out.frozen (p := ⟨w.heap.size, 3, none⟩) hs3).trans k3
  have z4 := f3.cell z4
  have k4 := (f3.out.frozen (p := ⟨w.heap.size, 4, none⟩) hs3).trans k4
  have z5 := f3.cell z5
  have k5 := (f3.out.frozen (p := ⟨w.heap.size, 5, none⟩) hs3).trans k5
  have z6 := f3.cell z6
  have k6 := (f3.out.frozen (p := ⟨w.heap.size, 6, none⟩) hs3).trans k6
  have z7 := f3.cell z7
  have k7 := (f3.out.frozen (p := ⟨w.heap.size, 7, none⟩) hs3).trans k7
  have z8 := f3.cell z8
  have k8 := (f3.out.frozen (p := ⟨w.heap.size, 8, none⟩) hs3).trans k8
  have HF3 := Lib.hid ((HF.out.trans f2).trans f3)
  have HQ := Lib.hid hc
  have hne : w.heap.size < b' := by omega
  clear f2 f3 hb hc hlb
  go_wp2
  refine bodyPost_ret (v := .tuple #[podVal 1 0 false 0 (.slice (some ⟨b', o', none⟩) 1 c') 0 1 (-1) (-1), .bool true]) ?_ rfl ?_
  · simp only [results, Tryz.results41]; go_simp
  · have h0 := HF3.out.out
    refine ⟨_, _, _, rfl, ?_, by omega, ?_⟩
    · have c7 := HQ.out
      repeat (first | (with_reducible exact c7) | (with_reducible refine Upd.cell (Upd.setCell _ _ _ _) (by omega) ?_))
    repeat (first | (with_reducible exact h0) | (with_reducible refine below_set ?_ (Nat.le_refl _) _))
set_option maxHeartbeats 4000000 in
set_option maxRecDepth 100000 in
theorem cpod1_any (b : Nat) (w : World) (h : ClF w b) : Calls Tryz.prog 22 #[.pointer (some ⟨b + 6, 0, none⟩), .int .i64 1] w fun e w' => ∃ b' o' c', e = .returned (.tuple #[podVal 1 0 false 0 (.slice (some ⟨b', o', none⟩) 1 c') 0 1 (-1) (-1), .bool true]) ∧ w'.cell? ⟨b', o', none⟩ = some (.int .i64 3) ∧ w.heap.size ≤ b' ∧ Below w.heap.size w w' := by
  have HS : Hid (∀ X, From w X → Calls Tryz.prog 31 #[.pointer (some ⟨b + 6, 0, none⟩)] X fun e w' => e = .returned (.agg #[.pointer (some ⟨b + 2, 0, none⟩), .pointer (some ⟨b + 5, 0, none⟩)]) ∧ From X w') := fun X f => by
    obtain ⟨br, orr, cr, bi, ci, b1, o1, c1, b2, o2, c2, hcl, -⟩ := h
    exact state_any b X (hcl.below f.out)
  have HG : Hid (∀ X, From w X → Calls Tryz.prog 41 #[.pointer (some ⟨b + 2, 0, none⟩), .int .i64 1] X fun e w' => ∃ b' o' c', e = .returned (.tuple #[podVal 1 0 false 0 (.slice (some ⟨b', o', none⟩) 1 c') 0 1 (-1) (-1), .bool true]) ∧ w'.cell? ⟨b', o', none⟩ = some (.int .i64 3) ∧ X.heap.size ≤ b' ∧ Below X.heap.size X w') := fun X f => podGet1_any b X (h.below f.out)
  have hf0 := stateField0 (some ⟨b + 2, 0, none⟩) (some ⟨b + 5, 0, none⟩)
  clear h
  go_enter Tryz.func22, Tryz.ntmps22
  go_wp2_with fail
  refine calls_named fun X1 hX1 => ?_
  have F1 : From w X1 := by rw [hX1]; exact (From.refl w).alloc _
  have z0 : X1.cell? ⟨w.heap.size, 0, none⟩ = some (.int .i64 0) := by rw [hX1]; go_simp
  have k0 : X1.frozen? ⟨w.heap.size, 0, none⟩ = false := by rw [hX1]; go_simp
  have z1 : X1.cell? ⟨w.heap.size, 1, none⟩ = some (.int .i64 0) := by rw [hX1]; go_simp
  have k1 : X1.frozen? ⟨w.heap.size, 1, none⟩ = false := by rw [hX1]; go_simp
  have z2 : X1.cell? ⟨w.heap.size, 2, none⟩ = some (.bool false) := by rw [hX1]; go_simp
  have k2 : X1.frozen? ⟨w.heap.size, 2, none⟩ = false := by rw [hX1]; go_simp
  have z3 : X1.cell? ⟨w.heap.size, 3, none⟩ = some (.int .i64 0) := by rw [hX1]; go_simp
  have k3 : X1.frozen? ⟨w.heap.size, 3, none⟩ = false := by rw [hX1]; go_simp
  have z4 : X1.cell? ⟨w.heap.size, 4, none⟩ = some (.slice none 0 0) := by rw [hX1]; go_simp
  have k4 : X1.frozen? ⟨w.heap.size, 4, none⟩ = false := by rw [hX1]; go_simp
  have z5 : X1.cell? ⟨w.heap.size, 5, none⟩ = some (.int .i64 0) := by rw [hX1]; go_simp
  have k5 : X1.frozen? ⟨w.heap.size, 5, none⟩ = false := by rw [hX1]; go_simp
  have z6 : X1.cell? ⟨w.heap.size, 6, none⟩ = some (.int .i64 0) := by rw [hX1]; go_simp
  have k6 : X1.frozen? ⟨w.heap.size, 6, none⟩ = false := by rw [hX1]; go_simp
  have z7 : X1.cell? ⟨w.heap.size, 7, none⟩ = some (.int .i64 0) := by rw [hX1]; go_simp
  have k7 : X1.frozen? ⟨w.heap.size, 7, none⟩ = false := by rw [hX1]; go_simp
  have z8 : X1.cell? ⟨w.heap.size, 8, none⟩ = some (.int .i64 0) := by rw [hX1]; go_simp
  have k8 : X1.frozen? ⟨w.heap.size, 8, none⟩ = false := by rw [hX1]; go_simp
  have hs1 := cell_lt z0
  clear hX1
  refine (HS.out _ F1).mono ?_
  rintro e W1 ⟨rfl, f1⟩
  have z0 := f1.cell z0
  have k0 := (f1.out.frozen (p := ⟨w.heap.size, 0, none⟩) hs1).trans k0
  have z1 := f1.cell z1
  have k1 := (f1.out.frozen (p := ⟨w.heap.size, 1, none⟩) hs1).trans k1
  have z2 := f1.cell z2
  have k2 := (f1.out.frozen (p := ⟨w.heap.size, 2, none⟩) hs1).trans k2
  have z3 := f1.cell z3
  have k3 := (f1.out.frozen (p := ⟨w.heap.size, 3, none⟩) hs1).trans k3
  have z4 := f1.cell z4
  have k4 := (f1.out.frozen (p := ⟨w.heap.size, 4, none⟩) hs1).trans k4
  have z5 := f1.cell z5
  have k5 := (f1.out.frozen (p := ⟨w.heap.size, 5, none⟩) hs1).trans k5
  have z6 := f1.cell z6
  have k6 := (f1.out.frozen (p := ⟨w.heap.size, 6, none⟩) hs1).trans k6
  have z7 := f1.cell z7
  have k7 := (f1.out.frozen (p := ⟨w.heap.size, 7, none⟩) hs1).trans k7
  have z8 := f1.cell z8
  have k8 := (f1.out.frozen (p := ⟨w.heap.size, 8, none⟩) hs1).trans k8
  have HF := Lib.hid (F1.trans f1)
  have hs2 := cell_lt z0
  clear F1 f1
  go_wp2_with fail
  refine (HG.out _ HF.out).mono ?_
  rintro e W3 ⟨b', o', c', rfl, hc, hlb, hb⟩
  have f3 : From W1 W3 := ⟨hb⟩
  have z0 := f3.cell z0
  have k0 := (f3.out.frozen (p := ⟨w.heap.size, 0, none⟩) hs2).trans k0
  have z1 := f3.cell z1
  have k1 := (f3.out.frozen (p := ⟨w.heap.size, 1, none⟩) hs2).trans k1
  have z2 := f3.cell z2
  have k2 := (f3.out.frozen (p := ⟨w.heap.size, 2, none⟩) hs2).trans k2
  have z3 := f3.cell z3
  have k3 := (f3.out.frozen (p := ⟨w.heap.size, 3, none⟩) hs2).trans k3
  have z4 := f3.cell z4
  have k4 := (f3.out.frozen (p := ⟨w.heap.size, 4, none⟩) hs2).trans k4
  have z5 := f3.cell z5
  have k5 := (f3.out.frozen (p := ⟨w.heap.size, 5, none⟩) hs2).trans k5
  have z6 := f3.cell z6
  have k6 := (f3.out.frozen (p := ⟨w.heap.size, 6, none⟩) hs2).trans k6
  have z7 := f3.cell z7
  have k7 := (f3.out.frozen (p := ⟨w.heap.size, 7, none⟩) hs2).trans k7
  have z8 := f3.cell z8
  have k8 := (f3.out.frozen (p := ⟨w.heap.size, 8, none⟩) hs2).trans k8
  have HF3 := Lib.hid (HF.out.trans f3)
  have HQ := Lib.hid hc
  have hne : w.heap.size < b' := by omega
  clear f3 hb hc hlb
  go_wp2
  refine bodyPost_ret (v := .tuple #[podVal 1 0 false 0 (.slice (some ⟨b', o', none⟩) 1 c') 0 1 (-1) (-1), .bool true]) ?_ rfl ?_
  · simp only [results, Tryz.results22]; go_simp
  · have h0 := HF3.out.out
    refine ⟨_, _, _, rfl, ?_, by omega, ?_⟩
    · have c7 := HQ.out
      repeat (first | (with_reducible exact c7) | (with_reducible refine Upd.cell (Upd.setCell _ _ _ _) (by omega) ?_))
    repeat (first | (with_reducible exact h0) | (with_reducible refine below_set ?_ (Nat.le_refl _) _))
set_option maxHeartbeats 4000000 in
set_option maxRecDepth 100000 in
theorem podGet2_any (b : Nat) (w : World) (h : ClF w b) : Calls Tryz.prog 41 #[.pointer (some ⟨b + 2, 0, none⟩), .int .i64 2] w fun e w' => e = .returned (.tuple #[podVal 0 0 false 0 (.slice none 0 0) 0 0 0 0, .bool false]) ∧ Below w.heap.size w w' := by
  obtain ⟨br, orr, cr, bi, ci, b1, o1, c1, b2, o2, c2, hcl, q3, -⟩ := h
  have HG : Hid (∀ X, From w X → Calls Tryz.prog 62 #[.pointer (some ⟨b + 1, 0, none⟩), .int .i64 2] X fun e w' => e = .returned (.tuple #[podVal 0 0 false 0 (.slice none 0 0) 0 0 0 0, .bool false]) ∧ From X w') := fun X f => tgetP_any b (b + 1) 2 0 0 false 0 none 0 0 0 0 0 0 false X ((hcl.below f.out).t1) (lookP2 (hcl.below f.out).mp)
  have HC := Lib.hid copied0_any
  have p0 := hcl.p0
  have hlt := hcl.lt
  have n1 : ¬ b + 2 = w.heap.size := by omega
  have n2 : b + 2 < w.heap.size := by omega
  clear hcl q3
  go_enter Tryz.func41, Tryz.ntmps41
  go_wp2_with fail
  refine calls_named fun X1 hX1 => ?_
  have F1 : From w X1 := by rw [hX1]; exact (From.refl w).alloc _
  have z0 : X1.cell? ⟨w.heap.size, 0, none⟩ = some (.int .i64 0) := by rw [hX1]; go_simp
  have k0 : X1.frozen? ⟨w.heap.size, 0, none⟩ = false := by rw [hX1]; go_simp
  have z1 : X1.cell? ⟨w.heap.size, 1, none⟩ = some (.int .i64 0) := by rw [hX1]; go_simp
  have k1 : X1.frozen? ⟨w.heap.size, 1, none⟩ = false := by rw [hX1]; go_simp
  have z2 : X1.cell? ⟨w.heap.size, 2, none⟩ = some (.bool false) := by rw [hX1]; go_simp
  have k2 : X1.frozen? ⟨w.heap.size, 2, none⟩ = false := by rw [hX1]; go_simp
  have z3 : X1.cell? ⟨w.heap.size, 3, none⟩ = some (.int .i64 0) := by rw [hX1]; go_simp
  have k3 : X1.frozen? ⟨w.heap.size, 3, none⟩ = false := by rw [hX1]; go_simp
  have z4 : X1.cell? ⟨w.heap.size, 4, none⟩ = some (.slice none 0 0) := by rw [hX1]; go_simp
  have k4 : X1.frozen? ⟨w.heap.size, 4, none⟩ = false := by rw [hX1]; go_simp
  have z5 : X1.cell? ⟨w.heap.size, 5, none⟩ = some (.int .i64 0) := by rw [hX1]; go_simp
  have k5 : X1.frozen? ⟨w.heap.size, 5, none⟩ = false := by rw [hX1]; go_simp
  have z6 : X1.cell? ⟨w.heap.size, 6, none⟩ = some (.int .i64 0) := by rw [hX1]; go_simp
  have k6 : X1.frozen? ⟨w.heap.size, 6, none⟩ = false := by rw [hX1]; go_simp
  have z7 : X1.cell? ⟨w.heap.size, 7, none⟩ = some (.int .i64 0) := by rw [hX1]; go_simp
  have k7 : X1.frozen? ⟨w.heap.size, 7, none⟩ = false := by rw [hX1]; go_simp
  have z8 : X1.cell? ⟨w.heap.size, 8, none⟩ = some (.int .i64 0) := by rw [hX1]; go_simp
  have k8 : X1.frozen? ⟨w.heap.size, 8, none⟩ = false := by rw [hX1]; go_simp
  have hs1 := cell_lt z0
  clear hX1
  refine (HG.out _ F1).mono ?_
  rintro e W1 ⟨rfl, f1⟩
  have z0 := f1.cell z0
  have k0 := (f1.out.frozen (p := ⟨w.heap.size, 0, none⟩) hs1).trans k0
  have z1 := f1.cell z1
  have k1 := (f1.out.frozen (p := ⟨w.heap.size, 1, none⟩) hs1).trans k1
  have z2 := f1.cell z2
  have k2 := (f1.out.frozen (p := ⟨w.heap.size, 2, none⟩) hs1).trans k2
  have z3 := f1.cell z3
  have k3 := (f1.out.frozen (p := ⟨w.heap.size, 3, none⟩) hs1).trans k3
  have z4 := f1.cell z4
  have k4 := (f1.out.frozen (p := ⟨w.heap.size, 4, none⟩) hs1).trans k4
  have z5 := f1.cell z5
  have k5 := (f1.out.frozen (p := ⟨w.heap.size, 5, none⟩) hs1).trans k5
  have z6 := f1.cell z6
  have k6 := (f1.out.frozen (p := ⟨w.heap.size, 6, none⟩) hs1).trans k6
  have z7 := f1.cell z7
  have k7 := (f1.out.frozen (p := ⟨w.heap.size, 7, none⟩) hs1).trans k7
  have z8 := f1.cell z8
  have k8 := (f1.out.frozen (p := ⟨w.heap.size, 8, none⟩) hs1).trans k8
  have HF := Lib.hid (F1.trans f1)
  clear F1 f1
  go_wp2_with fail
  refine calls_named fun X2 hX2 => ?_
  have f2 : From W1 X2 := by rw [hX2]; exact (From.refl _).alloc _
  have hs2 := cell_lt z0
  have z0 := f2.cell z0
  have k0 := (f2.out.frozen (p := ⟨w.heap.size, 0, none⟩) hs2).trans k0
  have z1 := f2.cell z1
  have k1 := (f2.out.frozen (p := ⟨w.heap.size, 1, none⟩) hs2).trans k1
  have z2 := f2.cell z2
  have k2 := (f2.out.frozen (p := ⟨w.heap.size, 2, none⟩) hs2).trans k2
  have z3 := f2.cell z3
  have k3 := (f2.out.frozen (p := ⟨w.heap.size, 3, none⟩) hs2).trans k3
  have z4 := f2.cell z4
  have k4 := (f2.out.frozen (p := ⟨w.heap.size, 4, none⟩) hs2).trans k4
  have z5 := f2.cell z5
  have k5 := (f2.out.frozen (p := ⟨w.heap.size, 5, none⟩) hs2).trans k5
  have z6 := f2.cell z6
  have k6 := (f2.out.frozen (p := ⟨w.heap.size, 6, none⟩) hs2).trans k6
  have z7 := f2.cell z7
  have k7 := (f2.out.frozen (p := ⟨w.heap.size, 7, none⟩) hs2).trans k7
  have z8 := f2.cell z8
  have k8 := (f2.out.frozen (p := ⟨w.heap.size, 8, none⟩) hs2).trans k8
  clear hX2
  refine (HC.out _).mono ?_
  rintro e W3 ⟨rfl, f3⟩
  have hs3 := cell_lt z0
  have z0 := f3.cell z0
  have k0 := (f3.out.frozen (p := ⟨w.heap.size, 0, none⟩) hs3).trans k0
  have z1 := f3.cell z1
  have k1 := (f3.out.frozen (p := ⟨w.heap.size, 1, none⟩) hs3).trans k1
  have z2 := f3.cell z2
  have k2 := (f3.out.frozen (p := ⟨w.heap.size, 2, none⟩) hs3).trans k2
  have z3 := f3.cell z3
  have k3 := (f3.out.frozen (p := ⟨w.heap.size, 3, none⟩) hs3).trans k3
  have z4 := f3.cell z4
  have k4 := (f3.out.frozen (p := ⟨w.heap.size, 4, none⟩) hs3).trans k4
  have z5 := f3.cell z5
  have k5 := (f3.out.frozen (p := ⟨w.heap.size, 5, none⟩) hs3).trans k5
  have z6 := f3.cell z6
  have k6 := (f3.out.frozen (p := ⟨w.heap.size, 6, none⟩) hs3).trans k6
  have z7 := f3.cell z7
  have k7 := (f3.out.frozen (p := ⟨w.heap.size, 7, none⟩) hs3).trans k7
  have z8 := f3.cell z8
  have k8 := (f3.out.frozen (p := ⟨w.heap.size, 8, none⟩) hs3).trans k8
  have HF3 := Lib.hid ((HF.out.trans f2).trans f3)


  clear f2 f3
  go_wp2
  refine bodyPost_ret (v := .tuple #[podVal 0 0 false 0 (.slice none 0 0) 0 0 0 0, .bool false]) ?_ rfl ?_
  · simp only [results, Tryz.results41]; go_simp
  · have h0 := HF3.out.out
    refine ⟨rfl, ?_⟩
    repeat (first | (with_reducible exact h0) | (with_reducible refine below_set ?_ (Nat.le_refl _) _))
set_option maxHeartbeats 4000000 in
set_option maxRecDepth 100000 in
theorem cpod2_any (b : Nat) (w : World) (h : ClF w b) : Calls Tryz.prog 22 #[.pointer (some ⟨b + 6, 0, none⟩), .int .i64 2] w fun e w' => e = .returned (.tuple #[podVal 0 0 false 0 (.slice none 0 0) 0 0 0 0, .bool false]) ∧ Below w.heap.size w w' := by
  have HS : Hid (∀ X, From w X → Calls Tryz.prog 31 #[.pointer (some ⟨b + 6, 0, none⟩)] X fun e w' => e = .returned (.agg #[.pointer (some ⟨b + 2, 0, none⟩), .pointer (some ⟨b + 5, 0, none⟩)]) ∧ From X w') := fun X f => by
    obtain ⟨br, orr, cr, bi, ci, b1, o1, c1, b2, o2, c2, hcl, -⟩ := h
    exact state_any b X (hcl.below f.out)
  have HG : Hid (∀ X, From w X → Calls Tryz.prog 41 #[.pointer (some ⟨b + 2, 0, none⟩), .int .i64 2] X fun e w' => e = .returned (.tuple #[podVal 0 0 false 0 (.slice none 0 0) 0 0 0 0, .bool false]) ∧ Below X.heap.size X w') := fun X f => podGet2_any b X (h.below f.out)
  have hf0 := stateField0 (some ⟨b + 2, 0, none⟩) (some ⟨b + 5, 0, none⟩)
  clear h
  go_enter Tryz.func22, Tryz.ntmps22
  go_wp2_with fail
  refine calls_named fun X1 hX1 => ?_
  have F1 : From w X1 := by rw [hX1]; exact (From.refl w).alloc _
  have z0 : X1.cell? ⟨w.heap.size, 0, none⟩ = some (.int .i64 0) := by rw [hX1]; go_simp
  have k0 : X1.frozen? ⟨w.heap.size, 0, none⟩ = false := by rw [hX1]; go_simp
  have z1 : X1.cell? ⟨w.heap.size, 1, none⟩ = some (.int .i64 0) := by rw [hX1]; go_simp
  have k1 : X1.frozen? ⟨w.heap.size, 1, none⟩ = false := by rw [hX1]; go_simp
  have z2 : X1.cell? ⟨w.heap.size, 2, none⟩ = some (.bool false) := by rw [hX1]; go_simp
  have k2 : X1.frozen? ⟨w.heap.size, 2, none⟩ = false := by rw [hX1]; go_simp
  have z3 : X1.cell? ⟨w.heap.size, 3, none⟩ = some (.int .i64 0) := by rw [hX1]; go_simp
  have k3 : X1.frozen? ⟨w.heap.size, 3, none⟩ = false := by rw [hX1]; go_simp
  have z4 : X1.cell? ⟨w.heap.size, 4, none⟩ = some (.slice none 0 0) := by rw [hX1]; go_simp
  have k4 : X1.frozen? ⟨w.heap.size, 4, none⟩ = false := by rw [hX1]; go_simp
  have z5 : X1.cell? ⟨w.heap.size, 5, none⟩ = some (.int .i64 0) := by rw [hX1]; go_simp
  have k5 : X1.frozen? ⟨w.heap.size, 5, none⟩ = false := by rw [hX1]; go_simp
  have z6 : X1.cell? ⟨w.heap.size, 6, none⟩ = some (.int .i64 0) := by rw [hX1]; go_simp
  have k6 : X1.frozen? ⟨w.heap.size, 6, none⟩ = false := by rw [hX1]; go_simp
  have z7 : X1.cell? ⟨w.heap.size, 7, none⟩ = some (.int .i64 0) := by rw [hX1]; go_simp
  have k7 : X1.frozen? ⟨w.heap.size, 7, none⟩ = false := by rw [hX1]; go_simp
  have z8 : X1.cell? ⟨w.heap.size, 8, none⟩ = some (.int .i64 0) := by rw [hX1]; go_simp
  have k8 : X1.frozen? ⟨w.heap.size, 8, none⟩ = false := by rw [hX1]; go_simp
  have hs1 := cell_lt z0
  clear hX1
  refine (HS.out _ F1).mono ?_
  rintro e W1 ⟨rfl, f1⟩
  have z0 := f1.cell z0
  have k0 := (f1.out.frozen (p := ⟨w.heap.size, 0, none⟩) hs1).trans k0
  have z1 := f1.cell z1
  have k1 := (f1.out.frozen (p := ⟨w.heap.size, 1, none⟩) hs1).trans k1
  have z2 := f1.cell z2
  have k2 := (f1.out.frozen (p := ⟨w.heap.size, 2, none⟩) hs1).trans k2
  have z3 := f1.cell z3
  have k3 := (f1.out.frozen (p := ⟨w.heap.size, 3, none⟩) hs1).trans k3
  have z4 := f1.cell z4
  have k4 := (f1.out.frozen (p := ⟨w.heap.size, 4, none⟩) hs1).trans k4
  have z5 := f1.cell z5
  have k5 := (f1.out.frozen (p := ⟨w.heap.size, 5, none⟩) hs1).trans k5
  have z6 := f1.cell z6
  have k6 := (f1.out.frozen (p := ⟨w.heap.size, 6, none⟩) hs1).trans k6
  have z7 := f1.cell z7
  have k7 := (f1.out.frozen (p := ⟨w.heap.size, 7, none⟩) hs1).trans k7
  have z8 := f1.cell z8
  have k8 := (f1.out.frozen (p := ⟨w.heap.size, 8, none⟩) hs1).trans k8
  have HF := Lib.hid (F1.trans f1)
  have hs2 := cell_lt z0
  clear F1 f1
  go_wp2_with fail
  refine (HG.out _ HF.out).mono ?_
  rintro e W3 ⟨rfl, hb⟩
  have f3 : From W1 W3 := ⟨hb⟩
  have z0 := f3.cell z0
  have k0 := (f3.out.frozen (p := ⟨w.heap.size, 0, none⟩) hs2).trans k0
  have z1 := f3.cell z1
  have k1 := (f3.out.frozen (p := ⟨w.heap.size, 1, none⟩) hs2).trans k1
  have z2 := f3.cell z2
  have k2 := (f3.out.frozen (p := ⟨w.heap.size, 2, none⟩) hs2).trans k2
  have z3 := f3.cell z3
  have k3 := (f3.out.frozen (p := ⟨w.heap.size, 3, none⟩) hs2).trans k3
  have z4 := f3.cell z4
  have k4 := (f3.out.frozen (p := ⟨w.heap.size, 4, none⟩) hs2).trans k4
  have z5 := f3.cell z5
  have k5 := (f3.out.frozen (p := ⟨w.heap.size, 5, none⟩) hs2).trans k5
  have z6 := f3.cell z6
  have k6 := (f3.out.frozen (p := ⟨w.heap.size, 6, none⟩) hs2).trans k6
  have z7 := f3.cell z7
  have k7 := (f3.out.frozen (p := ⟨w.heap.size, 7, none⟩) hs2).trans k7
  have z8 := f3.cell z8
  have k8 := (f3.out.frozen (p := ⟨w.heap.size, 8, none⟩) hs2).trans k8
  have HF3 := Lib.hid (HF.out.trans f3)


  clear f3 hb
  go_wp2
  refine bodyPost_ret (v := .tuple #[podVal 0 0 false 0 (.slice none 0 0) 0 0 0 0, .bool false]) ?_ rfl ?_
  · simp only [results, Tryz.results22]; go_simp
  · have h0 := HF3.out.out
    refine ⟨rfl, ?_⟩
    repeat (first | (with_reducible exact h0) | (with_reducible refine below_set ?_ (Nat.le_refl _) _))
end Go.Proofs.YtllipidegjpidaaGreatDoor
