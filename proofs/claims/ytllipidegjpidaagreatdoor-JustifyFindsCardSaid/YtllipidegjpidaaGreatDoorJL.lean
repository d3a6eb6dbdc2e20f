/- Submit of the pod of awake into a cluster without pods. -/
import Derived.Test.YtllipidegjpidaaGreatDoorJK
namespace Go.Proofs.YtllipidegjpidaaGreatDoor
set_option linter.all false
open Go.RowKit

theorem Upd.setCell (w : World) (g o : Nat) (v : Value) : Upd g w (w.setCell ⟨g, o, none⟩ v) := ⟨rfl, rfl, rfl, by simp, fun k hk => Below.heap_setCell _ _ _ _ hk⟩
theorem Cl.setIds {w : World} {b : Nat} {ids : Value} {kp kn : List (Int × Value)} (h : Cl w b ids kp kn) (v : Value) : Cl (w.setCell ⟨b + 2, 1, none⟩ v) b v kp kn := by
  have u := Upd.setCell w (b + 2) 1 v
  exact ⟨u.cell (by omega) h.t0, u.cell (by omega) h.t1, (World.cell?_setCell_other _ _ _ _ (by simp)).trans h.p0, World.cell?_setCell_same _ _ _ h.p1, (World.frozen?_setCell ..).trans h.pf, u.cell (by omega) h.u0, u.cell (by omega) h.u1, u.cell (by omega) h.s0, u.cell (by omega) h.s1, u.cell (by omega) h.c0, u.cell (by omega) h.c1, u.map (by omega) h.mp, u.map (by omega) h.mn⟩
theorem Cl.other {w w' : World} {b g : Nat} {ids : Value} {kp kn : List (Int × Value)} (h : Cl w b ids kp kn) (u : Upd g w w') (hg : b + 6 < g) : Cl w' b ids kp kn :=
  ⟨u.cell (by omega) h.t0, u.cell (by omega) h.t1, u.cell (by omega) h.p0, u.cell (by omega) h.p1, (u.frozen (by omega)).trans h.pf, u.cell (by omega) h.u0, u.cell (by omega) h.u1, u.cell (by omega) h.s0, u.cell (by omega) h.s1, u.cell (by omega) h.c0, u.cell (by omega) h.c1, u.map (by omega) h.mp, u.map (by omega) h.mn⟩
theorem app_ids (V : World) (n : Nat) (cs : Array Value) (t : Nat) : (((V.alloc (.cells #[.int .i64 1] n)).alloc (Obj.cells (#[.int .i64 1] ++ cs) t)).drew.drew).cell? ⟨V.heap.size + 1, 0, none⟩ = some (.int .i64 1) := by
  go_simp; simp [Array.getElem?_append]
/-- What Submit leaves. -/
def Submitted (w : World) (b : Nat) (kn : List (Int × Value)) (e : Ending) (w' : World) : Prop :=
  ∃ br orr cr bi ci b2 o2 c2, e = .returned (.tuple #[podVal 1 0 false 0 (.slice (some ⟨b2, o2, none⟩) 1 c2) 0 1 (-1) (-1), .nilIface]) ∧ Cl w' b (.slice (some ⟨bi, 0, none⟩) 1 ci) [(1, podVal 1 0 false 0 (.slice (some ⟨br, orr, none⟩) 1 cr) 0 1 (-1) (-1))] kn ∧
    w'.cell? ⟨br, orr, none⟩ = some (.int .i64 3) ∧ w'.cell? ⟨bi, 0, none⟩ = some (.int .i64 1) ∧ w'.cell? ⟨b2, o2, none⟩ = some (.int .i64 3) ∧ w.heap.size ≤ br ∧ w.heap.size ≤ bi ∧ w.heap.size ≤ b2 ∧
    (∀ g, g < w.heap.size → g ≠ b → g ≠ b + 2 → w'.heap[g]? = w.heap[g]?) ∧ w.heap.size ≤ w'.heap.size ∧ Below b w w'
set_option maxHeartbeats 4000000 in
set_option maxRecDepth 100000 in
theorem podSubmit_any {kn : List (Int × Value)} (b bk ok ck : Nat) (w : World) (h : Cl w b (.slice none 0 0) [] kn) (hk : w.cell? ⟨bk, ok, none⟩ = some (.int .i64 3)) :
    Calls Tryz.prog 37 #[.pointer (some ⟨b + 2, 0, none⟩), podVal 1 0 false 0 (.slice (some ⟨bk, ok, none⟩) 1 ck) 0 1 (-1) (-1)] w (Submitted w b kn) := by
  have HC : Hid (∀ X, From w X → Calls Tryz.prog 56 #[podVal 1 0 false 0 (.slice (some ⟨bk, ok, none⟩) 1 ck) 0 1 (-1) (-1)] X fun e w' => ∃ b' o' c', e = .returned (podVal 1 0 false 0 (.slice (some ⟨b', o', none⟩) 1 c') 0 1 (-1) (-1)) ∧ w'.cell? ⟨b', o', none⟩ = some (.int .i64 3) ∧ X.heap.size ≤ b' ∧ Below X.heap.size X w') := fun X f => copied1_any 1 0 false 0 0 1 (-1) (-1) 3 bk ok ck X (f.cell hk)
  have HC2 := Lib.hid fun b1 o1 c1 (X : World) h => copied1_any 1 0 false 0 0 1 (-1) (-1) 3 b1 o1 c1 X h
  have HA := Lib.hid fun m tb ra rl rc w (h0 : w.cell? ⟨tb, 0, none⟩ = some (.int .i64 65536)) h1 hm => taddP_any m tb 65536 1 1 0 false 0 ra rl rc 0 1 (-1) (-1) w (by omega) (by omega) h0 h1 hm
  have HN := Lib.hid asNil_any
  have HCL := Lib.hid h
  have hlt := h.lt
  clear h hk
  go_enter Tryz.func37, Tryz.ntmps37
  go_wp2_with fail
  refine calls_named fun X1 hX1 => ?_
  have F1 : From w X1 := by rw [hX1]; exact ((From.refl w).alloc _).alloc _
  have e0 : X1.cell? ⟨w.heap.size, 0, none⟩ = some (.int .i64 1) := by rw [hX1]; go_simp
  have e1 : X1.cell? ⟨w.heap.size, 1, none⟩ = some (.int .i64 0) := by rw [hX1]; go_simp
  have e2 : X1.cell? ⟨w.heap.size, 2, none⟩ = some (.bool false) := by rw [hX1]; go_simp
  have e3 : X1.cell? ⟨w.heap.size, 3, none⟩ = some (.int .i64 0) := by rw [hX1]; go_simp
  have e4 : X1.cell? ⟨w.heap.size, 4, none⟩ = some (.slice (some ⟨bk, ok, none⟩) 1 ck) := by rw [hX1]; go_simp
  have e5 : X1.cell? ⟨w.heap.size, 5, none⟩ = some (.int .i64 0) := by rw [hX1]; go_simp
  have e6 : X1.cell? ⟨w.heap.size, 6, none⟩ = some (.int .i64 1) := by rw [hX1]; go_simp
  have e7 : X1.cell? ⟨w.heap.size, 7, none⟩ = some (.int .i64 (-1)) := by rw [hX1]; go_simp
  have e8 : X1.cell? ⟨w.heap.size, 8, none⟩ = some (.int .i64 (-1)) := by rw [hX1]; go_simp
  have z0 : X1.cell? ⟨w.heap.size + 1, 0, none⟩ = some (.int .i64 0) := by rw [hX1]; go_simp
  have z1 : X1.cell? ⟨w.heap.size + 1, 1, none⟩ = some (.int .i64 0) := by rw [hX1]; go_simp
  have z2 : X1.cell? ⟨w.heap.size + 1, 2, none⟩ = some (.bool false) := by rw [hX1]; go_simp
  have z3 : X1.cell? ⟨w.heap.size + 1, 3, none⟩ = some (.int .i64 0) := by rw [hX1]; go_simp
  have z4 : X1.cell? ⟨w.heap.size + 1, 4, none⟩ = some (.slice none 0 0) := by rw [hX1]; go_simp
  have z5 : X1.cell? ⟨w.heap.size + 1, 5, none⟩ = some (.int .i64 0) := by rw [hX1]; go_simp
  have z6 : X1.cell? ⟨w.heap.size + 1, 6, none⟩ = some (.int .i64 0) := by rw [hX1]; go_simp
  have z7 : X1.cell? ⟨w.heap.size + 1, 7, none⟩ = some (.int .i64 0) := by rw [hX1]; go_simp
  have z8 : X1.cell? ⟨w.heap.size + 1, 8, none⟩ = some (.int .i64 0) := by rw [hX1]; go_simp
  have fe : ∀ j, X1.frozen? ⟨w.heap.size, j, none⟩ = false := fun j => by rw [hX1]; go_simp
  have fz : ∀ j, X1.frozen? ⟨w.heap.size + 1, j, none⟩ = false := fun j => by rw [hX1]; go_simp
  have hs1 : w.heap.size + 1 < X1.heap.size := by rw [hX1]; simp
  clear hX1
  refine (HC.out _ F1).mono ?_
  rintro e W1 ⟨b1, o1, c1, rfl, hc1, hb1, hb⟩
  have F2 : From X1 W1 := ⟨hb⟩
  have e0 := F2.cell e0
  have z0 := F2.cell z0
  have g0 := (hb.frozen (p := ⟨w.heap.size, 0, none⟩) (by show w.heap.size < _; omega)).trans (fe 0)
  have k0 := (hb.frozen (p := ⟨w.heap.size + 1, 0, none⟩) (by show w.heap.size + 1 < _; omega)).trans (fz 0)
  have e1 := F2.cell e1
  have z1 := F2.cell z1
  have g1 := (hb.frozen (p := ⟨w.heap.size, 1, none⟩) (by show w.heap.size < _; omega)).trans (fe 1)
  have k1 := (hb.frozen (p := ⟨w.heap.size + 1, 1, none⟩) (by show w.heap.size + 1 < _; omega)).trans (fz 1)
  have e2 := F2.cell e2
  have z2 := F2.cell z2
  have g2 := (hb.frozen (p := ⟨w.heap.size, 2, none⟩) (by show w.heap.size < _; omega)).trans (fe 2)
  have k2 := (hb.frozen (p := ⟨w.heap.size + 1, 2, none⟩) (by show w.heap.size + 1 < _; omega)).trans (fz 2)
  have e3 := F2.cell e3
  have z3 := F2.cell z3
  have g3 := (hb.frozen (p := ⟨w.heap.size, 3, none⟩) (by show w.heap.size < _; omega)).trans (fe 3)
  have k3 := (hb.frozen (p := ⟨w.heap.size + 1, 3, none⟩) (by show w.heap.size + 1 < _; omega)).trans (fz 3)
  have e4 := F2.cell e4
  have z4 := F2.cell z4
  have g4 := (hb.frozen (p := ⟨w.heap.size, 4, none⟩) (by show w.heap.size < _; omega)).trans (fe 4)
  have k4 := (hb.frozen (p := ⟨w.heap.size + 1, 4, none⟩) (by show w.heap.size + 1 < _; omega)).trans (fz 4)
  have e5 := F2.cell e5
  have z5 := F2.cell z5
  have g5 := (hb.frozen (p := ⟨w.heap.size, 5, none⟩) (by show w.heap.size < _; omega)).trans (fe 5)
  have k5 := (hb.frozen (p := ⟨w.heap.size + 1, 5, none⟩) (by show w.heap.size + 1 < _; omega)).trans (fz 5)
  have e6 := F2.cell e6
  have z6 := F2.cell z6
  have g6 := (hb.frozen (p := ⟨w.heap.size, 6, none⟩) (by show w.heap.size < _; omega)).trans (fe 6)
  have k6 := (hb.frozen (p := ⟨w.heap.size + 1, 6, none⟩) (by show w.heap.size + 1 < _; omega)).trans (fz 6)
  have e7 := F2.cell e7
  have z7 := F2.cell z7
  have g7 := (hb.frozen (p := ⟨w.heap.size, 7, none⟩) (by show w.heap.size < _; omega)).trans (fe 7)
  have k7 := (hb.frozen (p := ⟨w.heap.size + 1, 7, none⟩) (by show w.heap.size + 1 < _; omega)).trans (fz 7)
  have e8 := F2.cell e8
  have z8 := F2.cell z8
  have g8 := (hb.frozen (p := ⟨w.heap.size, 8, none⟩) (by show w.heap.size < _; omega)).trans (fe 8)
  have k8 := (hb.frozen (p := ⟨w.heap.size + 1, 8, none⟩) (by show w.heap.size + 1 < _; omega)).trans (fz 8)
  have HF := Lib.hid (F1.trans F2)
  have i1 := (F1.trans F2).cell HCL.out.p1
  have i0 := (F1.trans F2).cell HCL.out.p0
  have hl1 := cell_lt hc1
  have n1 : ¬ b1 = w.heap.size := by omega
  have n2 : ¬ w.heap.size = b1 := by omega
  have n3 : ¬ b1 = w.heap.size + 1 := by omega
  have n4 : ¬ w.heap.size + 1 = b1 := by omega
  have hsW : w.heap.size + 1 < W1.heap.size := by omega
  have n5 : ¬ b + 2 = w.heap.size := by omega
  have n6 : ¬ w.heap.size = b + 2 := by omega
  have n7 : ¬ b + 2 = w.heap.size + 1 := by omega
  have n8 : ¬ w.heap.size + 1 = b + 2 := by omega
  clear hb fe fz F1 F2
  go_wp2
  refine wp_named fun W2 hW2 => ?_
  have hB2 : Below w.heap.size w W2 := by
    rw [hW2]; have := HF.out.out
    repeat (first | (with_reducible exact this) | (with_reducible refine below_set ?_ (by omega) _))
  have hs2 : W2.heap.size = W1.heap.size := by rw [hW2]; simp
  have E0 : W2.cell? ⟨w.heap.size, 0, none⟩ = some (.int .i64 1) := by rw [hW2]; go_simp
  have E1 : W2.cell? ⟨w.heap.size, 1, none⟩ = some (.int .i64 0) := by rw [hW2]; go_simp
  have E2 : W2.cell? ⟨w.heap.size, 2, none⟩ = some (.bool false) := by rw [hW2]; go_simp
  have E3 : W2.cell? ⟨w.heap.size, 3, none⟩ = some (.int .i64 0) := by rw [hW2]; go_simp
  have E4 : W2.cell? ⟨w.heap.size, 4, none⟩ = some (.slice (some ⟨b1, o1, none⟩) 1 c1) := by rw [hW2]; go_simp
  have E5 : W2.cell? ⟨w.heap.size, 5, none⟩ = some (.int .i64 0) := by rw [hW2]; go_simp
  have E6 : W2.cell? ⟨w.heap.size, 6, none⟩ = some (.int .i64 1) := by rw [hW2]; go_simp
  have E7 : W2.cell? ⟨w.heap.size, 7, none⟩ = some (.int .i64 (-1)) := by rw [hW2]; go_simp
  have E8 : W2.cell? ⟨w.heap.size, 8, none⟩ = some (.int .i64 (-1)) := by rw [hW2]; go_simp
  have Z0 : W2.cell? ⟨w.heap.size + 1, 0, none⟩ = some (.int .i64 0) := by rw [hW2]; go_simp
  have Z1 : W2.cell? ⟨w.heap.size + 1, 1, none⟩ = some (.int .i64 0) := by rw [hW2]; go_simp
  have Z2 : W2.cell? ⟨w.heap.size + 1, 2, none⟩ = some (.bool false) := by rw [hW2]; go_simp
  have Z3 : W2.cell? ⟨w.heap.size + 1, 3, none⟩ = some (.int .i64 0) := by rw [hW2]; go_simp
  have Z4 : W2.cell? ⟨w.heap.size + 1, 4, none⟩ = some (.slice none 0 0) := by rw [hW2]; go_simp
  have Z5 : W2.cell? ⟨w.heap.size + 1, 5, none⟩ = some (.int .i64 0) := by rw [hW2]; go_simp
  have Z6 : W2.cell? ⟨w.heap.size + 1, 6, none⟩ = some (.int .i64 0) := by rw [hW2]; go_simp
  have Z7 : W2.cell? ⟨w.heap.size + 1, 7, none⟩ = some (.int .i64 0) := by rw [hW2]; go_simp
  have Z8 : W2.cell? ⟨w.heap.size + 1, 8, none⟩ = some (.int .i64 0) := by rw [hW2]; go_simp
  have G0 : W2.frozen? ⟨w.heap.size, 0, none⟩ = false := by rw [hW2]; go_simp
  have K0 : W2.frozen? ⟨w.heap.size + 1, 0, none⟩ = false := by rw [hW2]; go_simp
  have G1 : W2.frozen? ⟨w.heap.size, 1, none⟩ = false := by rw [hW2]; go_simp
  have K1 : W2.frozen? ⟨w.heap.size + 1, 1, none⟩ = false := by rw [hW2]; go_simp
  have G2 : W2.frozen? ⟨w.heap.size, 2, none⟩ = false := by rw [hW2]; go_simp
  have K2 : W2.frozen? ⟨w.heap.size + 1, 2, none⟩ = false := by rw [hW2]; go_simp
  have G3 : W2.frozen? ⟨w.heap.size, 3, none⟩ = false := by rw [hW2]; go_simp
  have K3 : W2.frozen? ⟨w.heap.size + 1, 3, none⟩ = false := by rw [hW2]; go_simp
  have G4 : W2.frozen? ⟨w.heap.size, 4, none⟩ = false := by rw [hW2]; go_simp
  have K4 : W2.frozen? ⟨w.heap.size + 1, 4, none⟩ = false := by rw [hW2]; go_simp
  have G5 : W2.frozen? ⟨w.heap.size, 5, none⟩ = false := by rw [hW2]; go_simp
  have K5 : W2.frozen? ⟨w.heap.size + 1, 5, none⟩ = false := by rw [hW2]; go_simp
  have G6 : W2.frozen? ⟨w.heap.size, 6, none⟩ = false := by rw [hW2]; go_simp
  have K6 : W2.frozen? ⟨w.heap.size + 1, 6, none⟩ = false := by rw [hW2]; go_simp
  have G7 : W2.frozen? ⟨w.heap.size, 7, none⟩ = false := by rw [hW2]; go_simp
  have K7 : W2.frozen? ⟨w.heap.size + 1, 7, none⟩ = false := by rw [hW2]; go_simp
  have G8 : W2.frozen? ⟨w.heap.size, 8, none⟩ = false := by rw [hW2]; go_simp
  have K8 : W2.frozen? ⟨w.heap.size + 1, 8, none⟩ = false := by rw [hW2]; go_simp
  have hc2 : W2.cell? ⟨b1, o1, none⟩ = some (.int .i64 3) := by rw [hW2]; go_simp
  have i1 := keepl hB2 HCL.out.p1
  have i0 := keepl hB2 HCL.out.p0
  have HB2 := Lib.hid hB2
  have HS2 := Lib.hid hs2
  clear hW2 hs2 hB2 HF hc1
  clear e0 z0 g0 k0 e1 z1 g1 k1 e2 z2 g2 k2 e3 z3 g3 k3 e4 z4 g4 k4 e5 z5 g5 k5 e6 z6 g6 k6 e7 z7 g7 k7 e8 z8 g8 k8
  have hl2 : w.heap.size + 1 < W2.heap.size := by have := HS2.out; omega
  have hl20 : w.heap.size < W2.heap.size := by omega
  have hl21 : b1 < W2.heap.size := by have := HS2.out; omega
  go_region

  go_wp2
  refine wp_named fun W4 hW4 => ?_
  have hB4 : Below w.heap.size w W4 := by
    have h0 := HB2.out
    have hl0 := h0.size
    rw [hW4]
    repeat (first | (with_reducible exact h0) | (with_reducible refine below_set ?_ (by omega) _) | (with_reducible refine Below.drew ?_) | (with_reducible refine Below.alloc ?_ (by simp; omega) _))
  have hs4 : W2.heap.size + 1 = W4.heap.size := by rw [hW4]; simp
  have e0 : W4.cell? ⟨w.heap.size, 0, none⟩ = some (.int .i64 1) := by rw [hW4]; go_simp
  have e1 : W4.cell? ⟨w.heap.size, 1, none⟩ = some (.int .i64 0) := by rw [hW4]; go_simp
  have e2 : W4.cell? ⟨w.heap.size, 2, none⟩ = some (.bool false) := by rw [hW4]; go_simp
  have e3 : W4.cell? ⟨w.heap.size, 3, none⟩ = some (.int .i64 0) := by rw [hW4]; go_simp
  have e4 : W4.cell? ⟨w.heap.size, 4, none⟩ = some (.slice (some ⟨b1, o1, none⟩) 1 c1) := by rw [hW4]; go_simp
  have e5 : W4.cell? ⟨w.heap.size, 5, none⟩ = some (.int .i64 0) := by rw [hW4]; go_simp
  have e6 : W4.cell? ⟨w.heap.size, 6, none⟩ = some (.int .i64 1) := by rw [hW4]; go_simp
  have e7 : W4.cell? ⟨w.heap.size, 7, none⟩ = some (.int .i64 (-1)) := by rw [hW4]; go_simp
  have e8 : W4.cell? ⟨w.heap.size, 8, none⟩ = some (.int .i64 (-1)) := by rw [hW4]; go_simp
  have z0 : W4.cell? ⟨w.heap.size + 1, 0, none⟩ = some (.int .i64 0) := by rw [hW4]; go_simp
  have z1 : W4.cell? ⟨w.heap.size + 1, 1, none⟩ = some (.int .i64 0) := by rw [hW4]; go_simp
  have z2 : W4.cell? ⟨w.heap.size + 1, 2, none⟩ = some (.bool false) := by rw [hW4]; go_simp
  have z3 : W4.cell? ⟨w.heap.size + 1, 3, none⟩ = some (.int .i64 0) := by rw [hW4]; go_simp
  have z4 : W4.cell? ⟨w.heap.size + 1, 4, none⟩ = some (.slice none 0 0) := by rw [hW4]; go_simp
  have z5 : W4.cell? ⟨w.heap.size + 1, 5, none⟩ = some (.int .i64 0) := by rw [hW4]; go_simp
  have z6 : W4.cell? ⟨w.heap.size + 1, 6, none⟩ = some (.int .i64 0) := by rw [hW4]; go_simp
  have z7 : W4.cell? ⟨w.heap.size + 1, 7, none⟩ = some (.int .i64 0) := by rw [hW4]; go_simp
  have z8 : W4.cell? ⟨w.heap.size + 1, 8, none⟩ = some (.int .i64 0) := by rw [hW4]; go_simp
  have k0 : W4.frozen? ⟨w.heap.size + 1, 0, none⟩ = false := by rw [hW4]; go_simp
  have k1 : W4.frozen? ⟨w.heap.size + 1, 1, none⟩ = false := by rw [hW4]; go_simp
  have k2 : W4.frozen? ⟨w.heap.size + 1, 2, none⟩ = false := by rw [hW4]; go_simp
  have k3 : W4.frozen? ⟨w.heap.size + 1, 3, none⟩ = false := by rw [hW4]; go_simp
  have k4 : W4.frozen? ⟨w.heap.size + 1, 4, none⟩ = false := by rw [hW4]; go_simp
  have k5 : W4.frozen? ⟨w.heap.size + 1, 5, none⟩ = false := by rw [hW4]; go_simp
  have k6 : W4.frozen? ⟨w.heap.size + 1, 6, none⟩ = false := by rw [hW4]; go_simp
  have k7 : W4.frozen? ⟨w.heap.size + 1, 7, none⟩ = false := by rw [hW4]; go_simp
  have k8 : W4.frozen? ⟨w.heap.size + 1, 8, none⟩ = false := by rw [hW4]; go_simp
  have hc4 : W4.cell? ⟨b1, o1, none⟩ = some (.int .i64 3) := by rw [hW4]; go_simp
  clear hW4
  clear E0 Z0 G0 K0 E1 Z1 G1 K1 E2 Z2 G2 K2 E3 Z3 G3 K3 E4 Z4 G4 K4 E5 Z5 G5 K5 E6 Z6 G6 K6 E7 Z7 G7 K7 E8 Z8 G8 K8 i0 i1 hc2
  have HB4 := Lib.hid hB4
  have HCX := Lib.hid (HCL.out.below hB4)
  have HS4 := Lib.hid hs4
  have HK : Hid (∀ w', From W4 w' → (w'.cell? ⟨w.heap.size, 0, none⟩ = some (.int .i64 1) ∧ w'.cell? ⟨w.heap.size, 1, none⟩ = some (.int .i64 0) ∧ w'.cell? ⟨w.heap.size, 2, none⟩ = some (.bool false) ∧ w'.cell? ⟨w.heap.size, 3, none⟩ = some (.int .i64 0) ∧ w'.cell? ⟨w.heap.size, 4, none⟩ = some (.slice (some ⟨b1, o1, none⟩) 1 c1) ∧ w'.cell? ⟨w.heap.size, 5, none⟩ = some (.int .i64 0) ∧ w'.cell? ⟨w.heap.size, 6, none⟩ = some (.int .i64 1) ∧ w'.cell? ⟨w.heap.size, 7, none⟩ = some (.int .i64 (-1)) ∧ w'.cell? ⟨w.heap.size, 8, none⟩ = some (.int .i64 (-1)) ∧ w'.cell? ⟨b + 2, 0, none⟩ = some (.pointer (some ⟨b + 1, 0, none⟩)))) := fun w' hf => ⟨hf.cell e0, hf.cell e1, hf.cell e2, hf.cell e3, hf.cell e4, hf.cell e5, hf.cell e6, hf.cell e7, hf.cell e8, hf.cell HCX.out.p0⟩
  have HU : Hid (∀ Y w', From W4 Y → Upd b Y w' → (w'.cell? ⟨w.heap.size, 0, none⟩ = some (.int .i64 1) ∧ w'.cell? ⟨w.heap.size, 1, none⟩ = some (.int .i64 0) ∧ w'.cell? ⟨w.heap.size, 2, none⟩ = some (.bool false) ∧ w'.cell? ⟨w.heap.size, 3, none⟩ = some (.int .i64 0) ∧ w'.cell? ⟨w.heap.size, 4, none⟩ = some (.slice (some ⟨b1, o1, none⟩) 1 c1) ∧ w'.cell? ⟨w.heap.size, 5, none⟩ = some (.int .i64 0) ∧ w'.cell? ⟨w.heap.size, 6, none⟩ = some (.int .i64 1) ∧ w'.cell? ⟨w.heap.size, 7, none⟩ = some (.int .i64 (-1)) ∧ w'.cell? ⟨w.heap.size, 8, none⟩ = some (.int .i64 (-1)) ∧ w'.cell? ⟨b + 2, 0, none⟩ = some (.pointer (some ⟨b + 1, 0, none⟩)))) := fun Y w' f u => by
    obtain ⟨q0, q1, q2, q3, q4, q5, q6, q7, q8, q9⟩ := HK.out _ f
    exact ⟨u.cell (by omega) q0, u.cell (by omega) q1, u.cell (by omega) q2, u.cell (by omega) q3, u.cell (by omega) q4, u.cell (by omega) q5, u.cell (by omega) q6, u.cell (by omega) q7, u.cell (by omega) q8, u.cell (by omega) q9⟩
  clear hB4 hs4
  have hv0 : From W4 W4 := From.refl W4
  have hv1 : From W4 W4.drew := hv0.drew
  go_region_held3 (fun w' => w'.cell? ⟨w.heap.size, 0, none⟩ = some (.int .i64 1) ∧ w'.cell? ⟨w.heap.size, 1, none⟩ = some (.int .i64 0) ∧ w'.cell? ⟨w.heap.size, 2, none⟩ = some (.bool false) ∧ w'.cell? ⟨w.heap.size, 3, none⟩ = some (.int .i64 0) ∧ w'.cell? ⟨w.heap.size, 4, none⟩ = some (.slice (some ⟨b1, o1, none⟩) 1 c1) ∧ w'.cell? ⟨w.heap.size, 5, none⟩ = some (.int .i64 0) ∧ w'.cell? ⟨w.heap.size, 6, none⟩ = some (.int .i64 1) ∧ w'.cell? ⟨w.heap.size, 7, none⟩ = some (.int .i64 (-1)) ∧ w'.cell? ⟨w.heap.size, 8, none⟩ = some (.int .i64 (-1)) ∧ w'.cell? ⟨b + 2, 0, none⟩ = some (.pointer (some ⟨b + 1, 0, none⟩)))
    (first
      | (with_reducible exact hSv)
      | (with_reducible exact HK.out _ hv1)
      | (with_reducible exact HK.out _ hv0)
      | fail)
    (first
      | (go_at_call 57; ((with_reducible refine (HA.out _ _ _ _ _ _ ((HCX.out.below hv1.out).t0) ((HCX.out.below hv1.out).t1) ((HCX.out.below hv1.out).mp)).mono ?_)); rintro e v3 ⟨rfl, hm, X9, f9, u9⟩; have hSv := HU.out _ _ (hv1.trans f9) u9; have HM := Lib.hid hm; have HU9 := Lib.hid u9; have HF9 := Lib.hid f9; clear hm u9 f9)
      | fail)
  obtain ⟨E0, E1, E2, E3, E4, E5, E6, E7, E8, P0⟩ := hSv
  have HFX := Lib.hid (hv1.trans HF9.out)
  have Z0 := HU9.out.cell (by omega) (HFX.out.cell z0)
  have Z1 := HU9.out.cell (by omega) (HFX.out.cell z1)
  have Z2 := HU9.out.cell (by omega) (HFX.out.cell z2)
  have Z3 := HU9.out.cell (by omega) (HFX.out.cell z3)
  have Z4 := HU9.out.cell (by omega) (HFX.out.cell z4)
  have Z5 := HU9.out.cell (by omega) (HFX.out.cell z5)
  have Z6 := HU9.out.cell (by omega) (HFX.out.cell z6)
  have Z7 := HU9.out.cell (by omega) (HFX.out.cell z7)
  have Z8 := HU9.out.cell (by omega) (HFX.out.cell z8)
  have K0 := (HU9.out.frozen (o := 0) (by omega : w.heap.size + 1 ≠ b)).trans ((HFX.out.out.frozen (p := ⟨w.heap.size + 1, 0, none⟩) (by have := HS4.out; show w.heap.size + 1 < _; omega)).trans k0)
  have K1 := (HU9.out.frozen (o := 1) (by omega : w.heap.size + 1 ≠ b)).trans ((HFX.out.out.frozen (p := ⟨w.heap.size + 1, 1, none⟩) (by have := HS4.out; show w.heap.size + 1 < _; omega)).trans k1)
  have K2 := (HU9.out.frozen (o := 2) (by omega : w.heap.size + 1 ≠ b)).trans ((HFX.out.out.frozen (p := ⟨w.heap.size + 1, 2, none⟩) (by have := HS4.out; show w.heap.size + 1 < _; omega)).trans k2)
  have K3 := (HU9.out.frozen (o := 3) (by omega : w.heap.size + 1 ≠ b)).trans ((HFX.out.out.frozen (p := ⟨w.heap.size + 1, 3, none⟩) (by have := HS4.out; show w.heap.size + 1 < _; omega)).trans k3)
  have K4 := (HU9.out.frozen (o := 4) (by omega : w.heap.size + 1 ≠ b)).trans ((HFX.out.out.frozen (p := ⟨w.heap.size + 1, 4, none⟩) (by have := HS4.out; show w.heap.size + 1 < _; omega)).trans k4)
  have K5 := (HU9.out.frozen (o := 5) (by omega : w.heap.size + 1 ≠ b)).trans ((HFX.out.out.frozen (p := ⟨w.heap.size + 1, 5, none⟩) (by have := HS4.out; show w.heap.size + 1 < _; omega)).trans k5)
  have K6 := (HU9.out.frozen (o := 6) (by omega : w.heap.size + 1 ≠ b)).trans ((HFX.out.out.frozen (p := ⟨w.heap.size + 1, 6, none⟩) (by have := HS4.out; show w.heap.size + 1 < _; omega)).trans k6)
  have K7 := (HU9.out.frozen (o := 7) (by omega : w.heap.size + 1 ≠ b)).trans ((HFX.out.out.frozen (p := ⟨w.heap.size + 1, 7, none⟩) (by have := HS4.out; show w.heap.size + 1 < _; omega)).trans k7)
  have K8 := (HU9.out.frozen (o := 8) (by omega : w.heap.size + 1 ≠ b)).trans ((HFX.out.out.frozen (p := ⟨w.heap.size + 1, 8, none⟩) (by have := HS4.out; show w.heap.size + 1 < _; omega)).trans k8)
  have C3 := HU9.out.cell (by omega) (HFX.out.cell hc4)
  have HCV : Hid (Cl v3 b (.slice none 0 0) [(1, podVal 1 0 false 0 (.slice (some ⟨b1, o1, none⟩) 1 c1) 0 1 (-1) (-1))] kn) := (HCX.out.below HFX.out.out).updP HU9.out HM.out
  have P1 := HCV.out.p1
  have PF := HCV.out.pf
  have hlv : W4.heap.size ≤ v3.heap.size := by have h1 := HFX.out.out.size; have h2 := HU9.out.size; omega
  have hlv2 : w.heap.size + 1 < v3.heap.size := by have := HS4.out; omega
  have hlv3 : w.heap.size < v3.heap.size := by omega
  have hlv4 : b + 2 < v3.heap.size := by omega
  have HBV : Hid (Below b w v3) := (HB4.out.mono (by omega)).trans ((HFX.out.out.mono (by have := HB4.out.size; omega)).trans (HU9.out.below (Nat.le_refl _)))
  have HBC : Hid (∀ g, g < w.heap.size → g ≠ b → v3.heap[g]? = w.heap[g]?) := fun g hg hb => (HU9.out.block g hb).trans ((HFX.out.out.block g (by have := HB4.out.size; omega)).trans (HB4.out.block g hg))
  clear hv0 hv1 hc4
  clear e0 z0 k0 e1 z1 k1 e2 z2 k2 e3 z3 k3 e4 z4 k4 e5 z5 k5 e6 z6 k6 e7 z7 k7 e8 z8 k8
  go_wp2_with (go_at_call 52; refine (HN.out _ _).mono ?_; rintro e w9 ⟨rfl, rfl⟩)
  have hcapn : ¬ (281474976710656 < Builtin.nextslicecap 1 0 * Tryz.t3.bytes) := by decide +kernel
  go_region
  generalize (Question.appendCap 1 0 3).cut (v3.tape (v3.drawn + 1) (Question.appendCap 1 0 3)) = cq
  go_wp2_with fail
  refine calls_named fun W6 hW6 => ?_
  have FS : From (v3.setCell ⟨b + 2, 1, none⟩ (.slice (some ⟨v3.heap.size + 1, 0, none⟩) 1 cq)) W6 := by
    rw [hW6]; constructor
    have h0 := Below.refl (v3.setCell ⟨b + 2, 1, none⟩ (.slice (some ⟨v3.heap.size + 1, 0, none⟩) 1 cq)).heap.size (v3.setCell ⟨b + 2, 1, none⟩ (.slice (some ⟨v3.heap.size + 1, 0, none⟩) 1 cq))
    repeat (first | (with_reducible exact h0) | (with_reducible refine Below.drew ?_) | (with_reducible refine Below.alloc ?_ (by simp) _))
  have HCS : Hid (Cl W6 b (.slice (some ⟨v3.heap.size + 1, 0, none⟩) 1 cq) [(1, podVal 1 0 false 0 (.slice (some ⟨b1, o1, none⟩) 1 c1) 0 1 (-1) (-1))] kn) := (HCV.out.setIds _).below FS.out
  have I0 : W6.cell? ⟨v3.heap.size + 1, 0, none⟩ = some (.int .i64 1) := by rw [hW6]; have h := app_ids (v3.setCell ⟨b + 2, 1, none⟩ (.slice (some ⟨v3.heap.size + 1, 0, none⟩) 1 cq)) 3 (Builtin.zeroCells #[.int .i64 0] (cq - 1)) 3; rw [World.size_setCell] at h; exact h
  have hs6 : W6.heap.size = v3.heap.size + 2 := by rw [hW6]; simp
  have US := Upd.setCell v3 (b + 2) 1 (.slice (some ⟨v3.heap.size + 1, 0, none⟩) 1 cq)
  have C6 := FS.cell (US.cell (by omega) C3)
  have z0 := FS.cell (US.cell (by omega) Z0)
  have z1 := FS.cell (US.cell (by omega) Z1)
  have z2 := FS.cell (US.cell (by omega) Z2)
  have z3 := FS.cell (US.cell (by omega) Z3)
  have z4 := FS.cell (US.cell (by omega) Z4)
  have z5 := FS.cell (US.cell (by omega) Z5)
  have z6 := FS.cell (US.cell (by omega) Z6)
  have z7 := FS.cell (US.cell (by omega) Z7)
  have z8 := FS.cell (US.cell (by omega) Z8)
  have k0 := (FS.out.frozen (p := ⟨w.heap.size + 1, 0, none⟩) (by show w.heap.size + 1 < _; simp; omega)).trans ((US.frozen (by omega)).trans K0)
  have k1 := (FS.out.frozen (p := ⟨w.heap.size + 1, 1, none⟩) (by show w.heap.size + 1 < _; simp; omega)).trans ((US.frozen (by omega)).trans K1)
  have k2 := (FS.out.frozen (p := ⟨w.heap.size + 1, 2, none⟩) (by show w.heap.size + 1 < _; simp; omega)).trans ((US.frozen (by omega)).trans K2)
  have k3 := (FS.out.frozen (p := ⟨w.heap.size + 1, 3, none⟩) (by show w.heap.size + 1 < _; simp; omega)).trans ((US.frozen (by omega)).trans K3)
  have k4 := (FS.out.frozen (p := ⟨w.heap.size + 1, 4, none⟩) (by show w.heap.size + 1 < _; simp; omega)).trans ((US.frozen (by omega)).trans K4)
  have k5 := (FS.out.frozen (p := ⟨w.heap.size + 1, 5, none⟩) (by show w.heap.size + 1 < _; simp; omega)).trans ((US.frozen (by omega)).trans K5)
  have k6 := (FS.out.frozen (p := ⟨w.heap.size + 1, 6, none⟩) (by show w.heap.size + 1 < _; simp; omega)).trans ((US.frozen (by omega)).trans K6)
  have k7 := (FS.out.frozen (p := ⟨w.heap.size + 1, 7, none⟩) (by show w.heap.size + 1 < _; simp; omega)).trans ((US.frozen (by omega)).trans K7)
  have k8 := (FS.out.frozen (p := ⟨w.heap.size + 1, 8, none⟩) (by show w.heap.size + 1 < _; simp; omega)).trans ((US.frozen (by omega)).trans K8)
  have HB6 : Hid (Below b w W6) := HBV.out.trans ((US.below (B := b) (by omega)).trans (FS.out.mono (by simp; omega)))
  have HBC6 : Hid (∀ g, g < w.heap.size → g ≠ b → g ≠ b + 2 → W6.heap[g]? = w.heap[g]?) := fun g hg hb hb2 => (FS.out.block g (by simp; omega)).trans ((US.block g hb2).trans (HBC.out g hg hb))
  have HS6 := Lib.hid hs6
  clear hW6 FS US hs6 C3 P0 P1 PF
  clear E0 Z0 K0 E1 Z1 K1 E2 Z2 K2 E3 Z3 K3 E4 Z4 K4 E5 Z5 K5 E6 Z6 K6 E7 Z7 K7 E8 Z8 K8
  refine (HC2.out b1 o1 c1 W6 C6).mono ?_
  rintro e W7 ⟨b2, o2, c2, rfl, hc7, hb7, hb⟩
  have F7 : From W6 W7 := ⟨hb⟩
  have hl6 : w.heap.size + 1 < W6.heap.size := by have := HS6.out; omega
  have q0 := (hb.frozen (p := ⟨w.heap.size + 1, 0, none⟩) hl6).trans k0
  have z0 := F7.cell z0
  have q1 := (hb.frozen (p := ⟨w.heap.size + 1, 1, none⟩) hl6).trans k1
  have z1 := F7.cell z1
  have q2 := (hb.frozen (p := ⟨w.heap.size + 1, 2, none⟩) hl6).trans k2
  have z2 := F7.cell z2
  have q3 := (hb.frozen (p := ⟨w.heap.size + 1, 3, none⟩) hl6).trans k3
  have z3 := F7.cell z3
  have q4 := (hb.frozen (p := ⟨w.heap.size + 1, 4, none⟩) hl6).trans k4
  have z4 := F7.cell z4
  have q5 := (hb.frozen (p := ⟨w.heap.size + 1, 5, none⟩) hl6).trans k5
  have z5 := F7.cell z5
  have q6 := (hb.frozen (p := ⟨w.heap.size + 1, 6, none⟩) hl6).trans k6
  have z6 := F7.cell z6
  have q7 := (hb.frozen (p := ⟨w.heap.size + 1, 7, none⟩) hl6).trans k7
  have z7 := F7.cell z7
  have q8 := (hb.frozen (p := ⟨w.heap.size + 1, 8, none⟩) hl6).trans k8
  have z8 := F7.cell z8
  have HC7 := Lib.hid (HCS.out.below F7.out)
  have i7 := F7.cell I0
  have c7 := F7.cell C6
  have hl7 := cell_lt hc7
  have m1 : ¬ b2 = w.heap.size + 1 := by omega
  have m2 : ¬ w.heap.size + 1 = b2 := by omega
  have m3 : ¬ v3.heap.size + 1 = w.heap.size + 1 := by omega
  have hlb7 : b + 6 < w.heap.size + 1 := by omega
  have HB7 : Hid (Below b w W7) := HB6.out.trans (F7.out.mono (by have := HB6.out.size; omega))
  have HBC7 : Hid (∀ g, g < w.heap.size → g ≠ b → g ≠ b + 2 → W7.heap[g]? = w.heap[g]?) := fun g h1 h2 h3 => (F7.out.block g (by omega)).trans (HBC6.out g h1 h2 h3)
  have hz7 : w.heap.size ≤ W7.heap.size := by have := F7.out.size; omega
  clear hb F7 I0 C6
  clear k0 k1 k2 k3 k4 k5 k6 k7 k8
  go_wp2
  refine bodyPost_ret (v := .tuple #[podVal 1 0 false 0 (.slice (some ⟨b2, o2, none⟩) 1 c2) 0 1 (-1) (-1), .nilIface]) ?_ rfl ?_
  · simp only [results, Tryz.results37]; go_simp
  · refine ⟨b1, o1, c1, v3.heap.size + 1, cq, b2, o2, c2, rfl, ?_, ?_, ?_, ?_, by omega, by omega, by omega, ?_, ?_, ?_⟩
    · have h0 := HC7.out
      repeat (first | (with_reducible exact h0) | (with_reducible refine Cl.other ?_ (Upd.setCell _ _ _ _) hlb7))
    · repeat (first | (with_reducible exact c7) | (with_reducible refine Upd.cell (Upd.setCell _ _ _ _) (by omega) ?_))
    · repeat (first | (with_reducible exact i7) | (with_reducible refine Upd.cell (Upd.setCell _ _ _ _) (by omega) ?_))
    · repeat (first | (with_reducible exact hc7) | (with_reducible refine Upd.cell (Upd.setCell _ _ _ _) (by omega) ?_))
    · intro g h1 h2 h3
      have h0 := HBC7.out g h1 h2 h3
      have h9 : g ≠ w.heap.size + 1 := by omega
      repeat (first | (with_reducible exact h0) | (with_reducible refine ((Upd.setCell _ _ _ _).block g h9).trans ?_))
    · simp only [World.size_setCell]; exact hz7
    · have h0 := HB7.out
      repeat (first | (with_reducible exact h0) | (with_reducible refine below_set ?_ (by omega) _))
end Go.Proofs.YtllipidegjpidaaGreatDoor
