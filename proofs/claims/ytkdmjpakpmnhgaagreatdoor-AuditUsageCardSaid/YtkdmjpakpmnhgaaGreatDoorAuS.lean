/- The view of awake; audit.twice of it and of the empty one. -/
import Derived.Test.YtkdmjpakpmnhgaaGreatDoorAuQ
import Derived.Test.YtkdmjpakpmnhgaaGreatDoorAuR
import Derived.Test.YtkdmjpakpmnhgaaGreatDoorAuI
namespace Go.Proofs.YtkdmjpakpmnhgaaGreatDoor
set_option linter.all false
open Go.RowKit

/-- The view of awake as it lies in memory. -/
structure AwV (w : World) (bn bp bc br : Nat) : Prop where
  n0 : w.cell? ⟨bn, 0, none⟩ = some (.int .i64 7)
  n1 : w.cell? ⟨bn, 1, none⟩ = some (.slice (some ⟨bc, 0, none⟩) 1 1)
  k0 : w.cell? ⟨bc, 0, none⟩ = some (.int .i64 5)
  r0 : w.cell? ⟨br, 0, none⟩ = some (.int .i64 3)
  p0 : w.cell? ⟨bp, 0, none⟩ = some (.int .i64 1)
  p1 : w.cell? ⟨bp, 1, none⟩ = some (.int .i64 0)
  p2 : w.cell? ⟨bp, 2, none⟩ = some (.bool false)
  p3 : w.cell? ⟨bp, 3, none⟩ = some (.int .i64 0)
  p4 : w.cell? ⟨bp, 4, none⟩ = some (.slice (some ⟨br, 0, none⟩) 1 1)
  p5 : w.cell? ⟨bp, 5, none⟩ = some (.int .i64 0)
  p6 : w.cell? ⟨bp, 6, none⟩ = some (.int .i64 3)
  p7 : w.cell? ⟨bp, 7, none⟩ = some (.int .i64 7)
  p8 : w.cell? ⟨bp, 8, none⟩ = some (.int .i64 (-1))
  q0 : w.cell? ⟨bp, 9, none⟩ = some (.int .i64 2)
  q1 : w.cell? ⟨bp, 10, none⟩ = some (.int .i64 0)
  q2 : w.cell? ⟨bp, 11, none⟩ = some (.bool false)
  q3 : w.cell? ⟨bp, 12, none⟩ = some (.int .i64 0)
  q4 : w.cell? ⟨bp, 13, none⟩ = some (.slice (some ⟨br, 0, none⟩) 1 1)
  q5 : w.cell? ⟨bp, 14, none⟩ = some (.int .i64 0)
  q6 : w.cell? ⟨bp, 15, none⟩ = some (.int .i64 3)
  q7 : w.cell? ⟨bp, 16, none⟩ = some (.int .i64 7)
  q8 : w.cell? ⟨bp, 17, none⟩ = some (.int .i64 (-1))
theorem AwV.below {w w' : World} {bn bp bc br : Nat} (h : AwV w bn bp bc br) (f : Below w.heap.size w w') : AwV w' bn bp bc br :=
  ⟨keepl f h.n0, keepl f h.n1, keepl f h.k0, keepl f h.r0, keepl f h.p0, keepl f h.p1, keepl f h.p2, keepl f h.p3, keepl f h.p4, keepl f h.p5, keepl f h.p6, keepl f h.p7, keepl f h.p8,
   keepl f h.q0, keepl f h.q1, keepl f h.q2, keepl f h.q3, keepl f h.q4, keepl f h.q5, keepl f h.q6, keepl f h.q7, keepl f h.q8⟩
abbrev awView (bn bp : Nat) : Value := viewV 1 (.slice (some ⟨bn, 0, none⟩) 1 1) (.slice (some ⟨bp, 0, none⟩) 2 2) (.slice none 0 0) (.slice none 0 0)
abbrev noView : Value := viewV 0 (.slice none 0 0) (.slice none 0 0) (.slice none 0 0) (.slice none 0 0)
/-- A loop goes on in a world that gets a name. -/
theorem rounds_named {P : Program} {c : Code} {Q : Exit → Act → World → Prop} {n : Nat} {a : Act} {X : World} (h : ∀ W, W = X → c.rounds P Q n a W) : c.rounds P Q n a X := h X rfl
set_option maxHeartbeats 1000000 in
set_option maxRecDepth 100000 in
theorem twice0 (w : World) : Calls Tryz.prog 33 #[noView] w fun e w' => ∃ a c, e = .returned (.slice a 0 c) ∧ Below w.heap.size w w' := by
  have hmm := @run_makeMap Tryz.prog
  go_enter Tryz.func33, Tryz.ntmps33
  go_wp2
  refine wp_loop_rounds 1 ?_
  rw [rounds_succ]
  go_wp2
  refine wp_loop_rounds 1 ?_
  rw [rounds_succ]
  go_wp2
  go_ret
  exact ⟨_, _, rfl, ((((From.refl w).alloc _).alloc _).alloc _).out⟩
set_option maxHeartbeats 1000000 in
set_option maxRecDepth 100000 in
theorem twice1 (w : World) (bn bp bc br : Nat) (h : AwV w bn bp bc br) : Calls Tryz.prog 33 #[awView bn bp] w fun e w' => ∃ a c, e = .returned (.slice a 0 c) ∧ Below w.heap.size w w' := by
  have hmm := @run_makeMap Tryz.prog
  have HA := Lib.hid h
  clear h
  go_enter Tryz.func33, Tryz.ntmps33
  go_wp2
  refine wp_loop_rounds 2 ?_
  refine rounds_named fun W1 hW1 => ?_
  obtain ⟨m1, hm1⟩ : ∃ m1, m1 = w.heap.size + 1 := ⟨_, rfl⟩
  have F1 : From w W1 := by rw [hW1]; exact (((From.refl w).alloc _).alloc _).alloc _
  have M1 : MapI W1 m1 [] := by
    have := MapI.new (w.alloc (.cells #[.int .i64 1, .slice (some ⟨bn, 0, none⟩) 1 1, .slice (some ⟨bp, 0, none⟩) 2 2, .slice none 0 0, .slice none 0 0] 33))
    have h2 := this.below ((From.refl _).alloc (.map #[] 0)).out
    rw [hW1, hm1]; simpa using h2
  have M2 : MapI W1 (m1 + 1) [] := by
    have := MapI.new ((w.alloc (.cells #[.int .i64 1, .slice (some ⟨bn, 0, none⟩) 1 1, .slice (some ⟨bp, 0, none⟩) 2 2, .slice none 0 0, .slice none 0 0] 33)).alloc (.map #[] 0))
    rw [hW1, hm1]; simpa using this
  have b2 : W1.cell? ⟨w.heap.size, 2, none⟩ = some (.slice (some ⟨bp, 0, none⟩) 2 2) := by rw [hW1]; go_simp
  have B1 : Below w.heap.size w W1 := F1.out
  have hlt1 : m1 < W1.heap.size := M1.lt
  have hlt2 : m1 + 1 < W1.heap.size := M2.lt
  have hwm : w.heap.size < m1 := by omega
  rw [← hm1]
  clear hW1 F1 hm1
  have A1 : AwV W1 bn bp bc br := HA.out.below B1
  obtain ⟨n0, n1, k0, r0, p0, p1, p2, p3, p4, p5, p6, p7, p8, q0, q1, q2, q3, q4, q5, q6, q7, q8⟩ := A1
  have P1 : From W1 (W1.alloc (.cells #[.int .i64 7, .slice (some ⟨bc, 0, none⟩) 1 1] 40)) := (From.refl _).alloc _
  have y1 : (W1.alloc (.cells #[.int .i64 7, .slice (some ⟨bc, 0, none⟩) 1 1] 40)).cell? ⟨W1.heap.size, 0, none⟩ = some (.int .i64 7) := by go_simp
  have N1 : MapI (W1.alloc (.cells #[.int .i64 7, .slice (some ⟨bc, 0, none⟩) 1 1] 40)) (m1) [] := M1.below P1.out
  have O1 : MapI (W1.alloc (.cells #[.int .i64 7, .slice (some ⟨bc, 0, none⟩) 1 1] 40)) (m1 + 1) [] := M2.below P1.out
  have l1 : (Instr.lookup 83 (.map (some (m1))) (.int .i64 7) false).run Tryz.prog (W1.alloc (.cells #[.int .i64 7, .slice (some ⟨bc, 0, none⟩) 1 1] 40)) = .ok (.int .i64 0) (W1.alloc (.cells #[.int .i64 7, .slice (some ⟨bc, 0, none⟩) 1 1] 40)) := (lookI_int N1 7).trans rfl
  have z2 := P1.cell b2
  obtain ⟨W2, u1, V1, U1⟩ := updI_int N1 7 (.int .i64 1)
  have l1' : (Instr.lookup 83 (.map (some (m1))) (.int .i64 7) false).run Tryz.prog W2 = .ok (.int .i64 1) W2 := (lookI_int V1 7).trans rfl
  have y1' := U1.cell (by omega) y1
  have z2' := U1.cell (by omega) z2
  have R1 := U1.map (b := m1 + 1) (by omega) O1
  have B1' : Below w.heap.size w W2 := (B1.alloc B1.size _).trans (U1.below (by omega))
  have HN1 := Lib.hid (show MapI W2 (m1) [(7, .int .i64 1)] from V1)
  have HO1 := Lib.hid R1
  have HB1 := Lib.hid B1'
  clear P1 N1 O1 z2 V1 U1 R1 M1 M2 B1 B1' b2 y1
  rw [rounds_succ]
  go_wp2
  have b2 := z2'
  have M1 := HN1.out
  have M2 := HO1.out
  have B1 := HB1.out
  have A1 : AwV W2 bn bp bc br := HA.out.below B1
  have hlt1 : m1 < W2.heap.size := M1.lt
  have hlt2 : m1 + 1 < W2.heap.size := M2.lt
  clear z2' HN1 HO1 HB1 l1 l1' u1 y1'
  clear n0 n1 k0 r0 p0 p1 p2 p3 p4 p5 p6 p7 p8 q0 q1 q2 q3 q4 q5 q6 q7 q8
  rw [rounds_succ]
  go_wp2
  refine wp_loop_rounds 3 ?_
  obtain ⟨n0, n1, k0, r0, p0, p1, p2, p3, p4, p5, p6, p7, p8, q0, q1, q2, q3, q4, q5, q6, q7, q8⟩ := A1
  have P2 : From W2 (W2.alloc (.cells #[.int .i64 1, .int .i64 0, .bool false, .int .i64 0, .slice (some ⟨br, 0, none⟩) 1 1, .int .i64 0, .int .i64 3, .int .i64 7, .int .i64 (-1)] 31)) := (From.refl _).alloc _
  have y2 : (W2.alloc (.cells #[.int .i64 1, .int .i64 0, .bool false, .int .i64 0, .slice (some ⟨br, 0, none⟩) 1 1, .int .i64 0, .int .i64 3, .int .i64 7, .int .i64 (-1)] 31)).cell? ⟨W2.heap.size, 0, none⟩ = some (.int .i64 1) := by go_simp
  have N2 : MapI (W2.alloc (.cells #[.int .i64 1, .int .i64 0, .bool false, .int .i64 0, .slice (some ⟨br, 0, none⟩) 1 1, .int .i64 0, .int .i64 3, .int .i64 7, .int .i64 (-1)] 31)) (m1 + 1) [] := M2.below P2.out
  have O2 : MapI (W2.alloc (.cells #[.int .i64 1, .int .i64 0, .bool false, .int .i64 0, .slice (some ⟨br, 0, none⟩) 1 1, .int .i64 0, .int .i64 3, .int .i64 7, .int .i64 (-1)] 31)) (m1) [(7, .int .i64 1)] := M1.below P2.out
  have l2 : (Instr.lookup 83 (.map (some (m1 + 1))) (.int .i64 1) false).run Tryz.prog (W2.alloc (.cells #[.int .i64 1, .int .i64 0, .bool false, .int .i64 0, .slice (some ⟨br, 0, none⟩) 1 1, .int .i64 0, .int .i64 3, .int .i64 7, .int .i64 (-1)] 31)) = .ok (.int .i64 0) (W2.alloc (.cells #[.int .i64 1, .int .i64 0, .bool false, .int .i64 0, .slice (some ⟨br, 0, none⟩) 1 1, .int .i64 0, .int .i64 3, .int .i64 7, .int .i64 (-1)] 31)) := (lookI_int N2 1).trans rfl
  have z2 := P2.cell b2
  obtain ⟨W3, u2, V2, U2⟩ := updI_int N2 1 (.int .i64 1)
  have l2' : (Instr.lookup 83 (.map (some (m1 + 1))) (.int .i64 1) false).run Tryz.prog W3 = .ok (.int .i64 1) W3 := (lookI_int V2 1).trans rfl
  have y2' := U2.cell (by omega) y2
  have z2' := U2.cell (by omega) z2
  have R2 := U2.map (b := m1) (by omega) O2
  have B2' : Below w.heap.size w W3 := (B1.alloc B1.size _).trans (U2.below (by omega))
  have HN2 := Lib.hid (show MapI W3 (m1 + 1) [(1, .int .i64 1)] from V2)
  have HO2 := Lib.hid R2
  have HB2 := Lib.hid B2'
  clear P2 N2 O2 z2 V2 U2 R2 M1 M2 B1 B2' b2 y2
  rw [rounds_succ]
  go_wp2
  have b2 := z2'
  have M2 := HN2.out
  have M1 := HO2.out
  have B1 := HB2.out
  have A1 : AwV W3 bn bp bc br := HA.out.below B1
  have hlt1 : m1 < W3.heap.size := M1.lt
  have hlt2 : m1 + 1 < W3.heap.size := M2.lt
  clear z2' HN2 HO2 HB2 l2 l2' u2 y2'
  clear n0 n1 k0 r0 p0 p1 p2 p3 p4 p5 p6 p7 p8 q0 q1 q2 q3 q4 q5 q6 q7 q8
  obtain ⟨n0, n1, k0, r0, p0, p1, p2, p3, p4, p5, p6, p7, p8, q0, q1, q2, q3, q4, q5, q6, q7, q8⟩ := A1
  have P3 : From W3 (W3.alloc (.cells #[.int .i64 2, .int .i64 0, .bool false, .int .i64 0, .slice (some ⟨br, 0, none⟩) 1 1, .int .i64 0, .int .i64 3, .int .i64 7, .int .i64 (-1)] 31)) := (From.refl _).alloc _
  have y3 : (W3.alloc (.cells #[.int .i64 2, .int .i64 0, .bool false, .int .i64 0, .slice (some ⟨br, 0, none⟩) 1 1, .int .i64 0, .int .i64 3, .int .i64 7, .int .i64 (-1)] 31)).cell? ⟨W3.heap.size, 0, none⟩ = some (.int .i64 2) := by go_simp
  have N3 : MapI (W3.alloc (.cells #[.int .i64 2, .int .i64 0, .bool false, .int .i64 0, .slice (some ⟨br, 0, none⟩) 1 1, .int .i64 0, .int .i64 3, .int .i64 7, .int .i64 (-1)] 31)) (m1 + 1) [(1, .int .i64 1)] := M2.below P3.out
  have O3 : MapI (W3.alloc (.cells #[.int .i64 2, .int .i64 0, .bool false, .int .i64 0, .slice (some ⟨br, 0, none⟩) 1 1, .int .i64 0, .int .i64 3, .int .i64 7, .int .i64 (-1)] 31)) (m1) [(7, .int .i64 1)] := M1.below P3.out
  have l3 : (Instr.lookup 83 (.map (some (m1 + 1))) (.int .i64 2) false).run Tryz.prog (W3.alloc (.cells #[.int .i64 2, .int .i64 0, .bool false, .int .i64 0, .slice (some ⟨br, 0, none⟩) 1 1, .int .i64 0, .int .i64 3, .int .i64 7, .int .i64 (-1)] 31)) = .ok (.int .i64 0) (W3.alloc (.cells #[.int .i64 2, .int .i64 0, .bool false, .int .i64 0, .slice (some ⟨br, 0, none⟩) 1 1, .int .i64 0, .int .i64 3, .int .i64 7, .int .i64 (-1)] 31)) := (lookI_int N3 2).trans rfl
  have z2 := P3.cell b2
  obtain ⟨W4, u3, V3, U3⟩ := updI_int N3 2 (.int .i64 1)
  have l3' : (Instr.lookup 83 (.map (some (m1 + 1))) (.int .i64 2) false).run Tryz.prog W4 = .ok (.int .i64 1) W4 := (lookI_int V3 2).trans rfl
  have y3' := U3.cell (by omega) y3
  have z2' := U3.cell (by omega) z2
  have R3 := U3.map (b := m1) (by omega) O3
  have B3' : Below w.heap.size w W4 := (B1.alloc B1.size _).trans (U3.below (by omega))
  have HN3 := Lib.hid (show MapI W4 (m1 + 1) [(1, .int .i64 1), (2, .int .i64 1)] from V3)
  have HO3 := Lib.hid R3
  have HB3 := Lib.hid B3'
  clear P3 N3 O3 z2 V3 U3 R3 M1 M2 B1 B3' b2 y3
  rw [rounds_succ]
  go_wp2
  have b2 := z2'
  have M2 := HN3.out
  have M1 := HO3.out
  have B1 := HB3.out
  have A1 : AwV W4 bn bp bc br := HA.out.below B1
  have hlt1 : m1 < W4.heap.size := M1.lt
  have hlt2 : m1 + 1 < W4.heap.size := M2.lt
  clear z2' HN3 HO3 HB3 l3 l3' u3 y3'
  clear n0 n1 k0 r0 p0 p1 p2 p3 p4 p5 p6 p7 p8 q0 q1 q2 q3 q4 q5 q6 q7 q8
  rw [rounds_succ]
  go_wp2
  go_ret
  exact ⟨_, _, rfl, B1⟩
end Go.Proofs.YtkdmjpakpmnhgaaGreatDoor
