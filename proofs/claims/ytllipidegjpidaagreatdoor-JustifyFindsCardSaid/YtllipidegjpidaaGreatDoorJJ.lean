/- A cluster as it lies in memory: New, state, Dims, AddNode. -/
import Derived.Test.YtllipidegjpidaaGreatDoorJI
import Derived.Deep.RegionHeld3
namespace Go.Proofs.YtllipidegjpidaaGreatDoor
set_option linter.all false
open Go.RowKit

/-- A cluster in seven blocks from b on: the two maps hold these entries. -/
structure Cl (w : World) (b : Nat) (ids : Value) (kp kn : List (Int × Value)) : Prop where
  t0 : w.cell? ⟨b + 1, 0, none⟩ = some (.int .i64 65536)
  t1 : w.cell? ⟨b + 1, 1, none⟩ = some (.map (some b))
  p0 : w.cell? ⟨b + 2, 0, none⟩ = some (.pointer (some ⟨b + 1, 0, none⟩))
  p1 : w.cell? ⟨b + 2, 1, none⟩ = some ids
  pf : w.frozen? ⟨b + 2, 1, none⟩ = false
  u0 : w.cell? ⟨b + 4, 0, none⟩ = some (.int .i64 1024)
  u1 : w.cell? ⟨b + 4, 1, none⟩ = some (.map (some (b + 3)))
  s0 : w.cell? ⟨b + 5, 0, none⟩ = some (.int .i64 1)
  s1 : w.cell? ⟨b + 5, 1, none⟩ = some (.pointer (some ⟨b + 4, 0, none⟩))
  c0 : w.cell? ⟨b + 6, 0, none⟩ = some (.pointer (some ⟨b + 2, 0, none⟩))
  c1 : w.cell? ⟨b + 6, 1, none⟩ = some (.pointer (some ⟨b + 5, 0, none⟩))
  mp : MapI w b kp
  mn : MapI w (b + 3) kn
theorem Cl.lt {w : World} {b : Nat} {ids : Value} {kp kn : List (Int × Value)} (h : Cl w b ids kp kn) : b + 6 < w.heap.size := cell_lt h.c0
theorem Cl.below {w w' : World} {b : Nat} {ids : Value} {kp kn : List (Int × Value)} (h : Cl w b ids kp kn) (f : Below w.heap.size w w') : Cl w' b ids kp kn :=
  ⟨keepl f h.t0, keepl f h.t1, keepl f h.p0, keepl f h.p1, (f.frozen (p := ⟨b + 2, 1, none⟩) (by have := h.lt; simp only []; omega)).trans h.pf, keepl f h.u0, keepl f h.u1, keepl f h.s0, keepl f h.s1, keepl f h.c0, keepl f h.c1, h.mp.below f, h.mn.below f⟩
theorem Upd.frozen {bm b o : Nat} {w w' : World} (h : Upd bm w w') (hb : b ≠ bm) : w'.frozen? ⟨b, o, none⟩ = w.frozen? ⟨b, o, none⟩ := by
  have hk := h.block b hb
  simp only [World.frozen?, hk]
/-- The map of nodes is turned. -/
theorem Cl.updN {w w' : World} {b : Nat} {ids : Value} {kp kn kn' : List (Int × Value)} (h : Cl w b ids kp kn) (u : Upd (b + 3) w w') (m : MapI w' (b + 3) kn') : Cl w' b ids kp kn' :=
  ⟨u.cell (by omega) h.t0, u.cell (by omega) h.t1, u.cell (by omega) h.p0, u.cell (by omega) h.p1, (u.frozen (by omega)).trans h.pf, u.cell (by omega) h.u0, u.cell (by omega) h.u1, u.cell (by omega) h.s0, u.cell (by omega) h.s1, u.cell (by omega) h.c0, u.cell (by omega) h.c1, u.map (by omega) h.mp, m⟩
/-- The map of pods is turned. -/
theorem Cl.updP {w w' : World} {b : Nat} {ids : Value} {kp kn kp' : List (Int × Value)} (h : Cl w b ids kp kn) (u : Upd b w w') (m : MapI w' b kp') : Cl w' b ids kp' kn :=
  ⟨u.cell (by omega) h.t0, u.cell (by omega) h.t1, u.cell (by omega) h.p0, u.cell (by omega) h.p1, (u.frozen (by omega)).trans h.pf, u.cell (by omega) h.u0, u.cell (by omega) h.u1, u.cell (by omega) h.s0, u.cell (by omega) h.s1, u.cell (by omega) h.c0, u.cell (by omega) h.c1, m, u.map (by omega) h.mn⟩
set_option maxRecDepth 100000 in
theorem podNew_any (w : World) : Calls Tryz.prog 29 #[.int .i64 65536] w fun e w' => e = .returned (.pointer (some ⟨w.heap.size + 2, 0, none⟩)) ∧ w' = ((w.alloc (.map #[] 0)).alloc (.cells #[.int .i64 65536, .map (some w.heap.size)] 139)).alloc (.cells #[.pointer (some ⟨w.heap.size + 1, 0, none⟩), .slice none 0 0] 113) := by
  have HT := Lib.hid fun w => tnewP_any 65536 w (by omega)
  go_enter Tryz.func29, Tryz.ntmps29
  go_wp2_with fail
  refine (HT.out _).mono ?_
  rintro e w1 ⟨rfl, rfl⟩
  go_wp2
  go_ret
  exact ⟨rfl, rfl⟩
set_option maxRecDepth 100000 in
theorem nodeNew_any (w : World) : Calls Tryz.prog 30 #[.int .i64 1, .int .i64 1024] w fun e w' => e = .returned (.pointer (some ⟨w.heap.size + 2, 0, none⟩)) ∧ w' = ((w.alloc (.map #[] 0)).alloc (.cells #[.int .i64 1024, .map (some w.heap.size)] 142)).alloc (.cells #[.int .i64 1, .pointer (some ⟨w.heap.size + 1, 0, none⟩)] 119) := by
  have HT := Lib.hid fun w => tnewE_any 1024 w (by omega)
  go_enter Tryz.func30, Tryz.ntmps30
  go_wp2_with fail
  refine (HT.out _).mono ?_
  rintro e w1 ⟨rfl, rfl⟩
  go_wp2
  go_ret
  exact ⟨rfl, rfl⟩
set_option maxHeartbeats 1000000 in
set_option maxRecDepth 100000 in
theorem cnew_any (w : World) : Calls Tryz.prog 18 #[.int .i64 1] w fun e w' => e = .returned (.pointer (some ⟨w.heap.size + 6, 0, none⟩)) ∧ Cl w' w.heap.size (.slice none 0 0) [] [] ∧ From w w' := by
  have H1 := Lib.hid podNew_any
  have H2 := Lib.hid nodeNew_any
  go_enter Tryz.func18, Tryz.ntmps18
  go_wp2_with fail
  refine (H1.out _).mono ?_
  rintro e w1 ⟨rfl, hw1⟩
  have F1 : From w w1 := by rw [hw1]; exact (((From.refl w).alloc _).alloc _).alloc _
  have t0 : w1.cell? ⟨w.heap.size + 1, 0, none⟩ = some (.int .i64 65536) := by rw [hw1]; go_simp
  have t1 : w1.cell? ⟨w.heap.size + 1, 1, none⟩ = some (.map (some w.heap.size)) := by rw [hw1]; go_simp
  have p0 : w1.cell? ⟨w.heap.size + 2, 0, none⟩ = some (.pointer (some ⟨w.heap.size + 1, 0, none⟩)) := by rw [hw1]; go_simp
  have p1 : w1.cell? ⟨w.heap.size + 2, 1, none⟩ = some (.slice none 0 0) := by rw [hw1]; go_simp
  have pf : w1.frozen? ⟨w.heap.size + 2, 1, none⟩ = false := by rw [hw1]; go_simp
  have mp : MapI w1 w.heap.size [] := by rw [hw1]; exact (MapI.new w).below (((From.refl _).alloc _).alloc _).out
  have hs1 : w1.heap.size = w.heap.size + 3 := by rw [hw1]; simp
  clear hw1
  have HS1 := Lib.hid hs1
  clear hs1
  go_wp2_with fail
  refine (H2.out _).mono ?_
  rintro e w2 ⟨rfl, hw2⟩
  have hs1 := HS1.out
  have F2 : From w1 w2 := by rw [hw2]; exact (((From.refl w1).alloc _).alloc _).alloc _
  have u0 : w2.cell? ⟨w.heap.size + 4, 0, none⟩ = some (.int .i64 1024) := by rw [hw2, show w.heap.size + 4 = w1.heap.size + 1 by omega]; go_simp
  have u1 : w2.cell? ⟨w.heap.size + 4, 1, none⟩ = some (.map (some (w.heap.size + 3))) := by rw [hw2, show w.heap.size + 4 = w1.heap.size + 1 by omega, ← hs1]; clear hs1; go_simp
  have s0 : w2.cell? ⟨w.heap.size + 5, 0, none⟩ = some (.int .i64 1) := by rw [hw2, show w.heap.size + 5 = w1.heap.size + 2 by omega]; clear hs1; go_simp
  have s1 : w2.cell? ⟨w.heap.size + 5, 1, none⟩ = some (.pointer (some ⟨w.heap.size + 4, 0, none⟩)) := by rw [hw2, show w.heap.size + 5 = w1.heap.size + 2 by omega, show w.heap.size + 4 = w1.heap.size + 1 by omega]; clear hs1; go_simp
  have mn : MapI w2 (w.heap.size + 3) [] := by rw [hw2, ← hs1]; exact (MapI.new w1).below (((From.refl _).alloc _).alloc _).out
  have hs2 : w2.heap.size = w.heap.size + 6 := by rw [hw2]; simp; omega
  clear hw2
  have e5 : w1.heap.size + 2 = w.heap.size + 5 := by omega
  rw [e5]
  have HS2 := Lib.hid hs2
  have HF := Lib.hid (F1.trans F2)
  have HF2 := Lib.hid F2
  clear hs1 hs2 HS1 e5 F1 F2
  go_wp2
  have hs2 := HS2.out
  have F2 := HF2.out
  have FA : From w2 (w2.alloc (.cells #[.pointer (some ⟨w.heap.size + 2, 0, none⟩), .pointer (some ⟨w.heap.size + 5, 0, none⟩)] 80)) := (From.refl _).alloc _
  have k0 : (w2.alloc (.cells #[.pointer (some ⟨w.heap.size + 2, 0, none⟩), .pointer (some ⟨w.heap.size + 5, 0, none⟩)] 80)).cell? ⟨w.heap.size + 6, 0, none⟩ = some (.pointer (some ⟨w.heap.size + 2, 0, none⟩)) := by rw [← hs2]; clear hs2; go_simp
  have k1 : (w2.alloc (.cells #[.pointer (some ⟨w.heap.size + 2, 0, none⟩), .pointer (some ⟨w.heap.size + 5, 0, none⟩)] 80)).cell? ⟨w.heap.size + 6, 1, none⟩ = some (.pointer (some ⟨w.heap.size + 5, 0, none⟩)) := by rw [← hs2]; clear hs2; go_simp
  have FB := F2.trans FA
  have hfz := (FB.out.frozen (p := ⟨w.heap.size + 2, 1, none⟩) (cell_lt p0)).trans pf
  go_ret
  refine ⟨?_, ⟨FB.cell t0, FB.cell t1, FB.cell p0, FB.cell p1, hfz, FA.cell u0, FA.cell u1, FA.cell s0, FA.cell s1, k0, k1, mp.below FB.out, mn.below FA.out⟩, HF.out.trans FA⟩
  rw [← hs2]; rfl
theorem stateField0 (a b : Option Addr) (w : World) : (Instr.field 78 (.agg #[.pointer a, .pointer b]) 0).run Tryz.prog w = .ok (.pointer a) w := by kernel_rfl
theorem stateField1 (a b : Option Addr) (w : World) : (Instr.field 78 (.agg #[.pointer a, .pointer b]) 1).run Tryz.prog w = .ok (.pointer b) w := by kernel_rfl
set_option maxRecDepth 100000 in
theorem state_any {ids : Value} {kp kn : List (Int × Value)} (b : Nat) (w : World) (h : Cl w b ids kp kn) : Calls Tryz.prog 31 #[.pointer (some ⟨b + 6, 0, none⟩)] w fun e w' => e = .returned (.agg #[.pointer (some ⟨b + 2, 0, none⟩), .pointer (some ⟨b + 5, 0, none⟩)]) ∧ From w w' := by
  have c0 := h.c0
  have c1 := h.c1
  have hlt := h.lt
  have hn : ¬ b + 6 = w.heap.size := by omega
  have hn2 : ¬ w.heap.size = b + 6 := by omega
  clear h
  go_enter Tryz.func31, Tryz.ntmps31
  go_wp2
  refine bodyPost_ret (v := .agg #[.pointer (some ⟨b + 2, 0, none⟩), .pointer (some ⟨b + 5, 0, none⟩)]) ?_ rfl ⟨rfl, ?_⟩
  · simp only [results, Tryz.results31]; go_simp
  · exact (From.refl w).alloc _
set_option maxRecDepth 100000 in
theorem ndims_any {ids : Value} {kp kn : List (Int × Value)} (b : Nat) (w : World) (h : Cl w b ids kp kn) : Calls Tryz.prog 55 #[.pointer (some ⟨b + 5, 0, none⟩)] w fun e w' => e = .returned (.int .i64 1) ∧ w = w' := by
  have s0 := h.s0
  clear h
  go_enter Tryz.func55, Tryz.ntmps55
  go_wp2
  go_ret
  exact ⟨rfl, rfl⟩
set_option maxRecDepth 100000 in
theorem cdims_any {ids : Value} {kp kn : List (Int × Value)} (b : Nat) (w : World) (h : Cl w b ids kp kn) : Calls Tryz.prog 35 #[.pointer (some ⟨b + 6, 0, none⟩)] w fun e w' => e = .returned (.int .i64 1) ∧ From w w' := by
  have H1 := Lib.hid (state_any b w h)
  have H2 : Hid (∀ X, From w X → Calls Tryz.prog 55 #[.pointer (some ⟨b + 5, 0, none⟩)] X fun e w' => e = .returned (.int .i64 1) ∧ X = w') := fun X f => ndims_any b X (h.below f.out)
  have hf1 := stateField1 (some ⟨b + 2, 0, none⟩) (some ⟨b + 5, 0, none⟩)
  clear h
  go_enter Tryz.func35, Tryz.ntmps35
  go_wp2_with fail
  refine H1.out.mono ?_
  rintro e w1 ⟨rfl, f1⟩
  have HF := Lib.hid f1
  clear f1
  go_wp2_with (go_at_call 55; refine (H2.out _ HF.out).mono ?_; rintro e w2 ⟨rfl, rfl⟩)
  go_ret
  exact ⟨rfl, HF.out⟩
end Go.Proofs.YtllipidegjpidaaGreatDoor
