/- audit.Check of a view whose parts are known: the capacity alone may find the node 7. -/
import Derived.Test.YtllipidegjpidaaGreatDoorAuP
namespace Go.Proofs.YtllipidegjpidaaGreatDoor
set_option linter.all false
open Go.RowKit

theorem app_cell0 (W : World) (o : Obj) (a b : Value) (cs : Array Value) (t : Nat) : ((W.alloc o).alloc (Obj.cells (#[a, b] ++ cs) t)).drew.cell? ⟨W.heap.size + 1, 0, none⟩ = some a := by
  go_simp; simp [Array.getElem?_append]
theorem app_cell1 (W : World) (o : Obj) (a b : Value) (cs : Array Value) (t : Nat) : ((W.alloc o).alloc (Obj.cells (#[a, b] ++ cs) t)).drew.cell? ⟨W.heap.size + 1, 1, none⟩ = some b := by
  go_simp; simp [Array.getElem?_append]
/-- A part finds nothing. -/
def PartNone (f : Nat) (vv : Value) (W : World) : Prop := ∀ w', From W w' → Calls Tryz.prog f #[vv] w' fun e w'' => ∃ a c, e = .returned (.slice a 0 c) ∧ Below w'.heap.size w' w''
/-- A part finds the node 7. -/
def PartOne (f : Nat) (vv : Value) (W : World) : Prop := ∀ w', From W w' → Calls Tryz.prog f #[vv] w' fun e w'' => ∃ b c, e = .returned (.slice (some ⟨b, 0, none⟩) 1 c) ∧ w''.cell? ⟨b, 0, none⟩ = some (.int .i64 7) ∧ Below w'.heap.size w' w''
set_option maxHeartbeats 4000000 in
set_option maxRecDepth 100000 in
theorem check_none (dims : Int) (an ap aa ak : Option Addr) (ln lp la lk cn cp ca ck : Nat) (w : World)
    (h1 : PartNone 77 (viewV dims (.slice an ln cn) (.slice ap lp cp) (.slice aa la ca) (.slice ak lk ck)) w)
    (h2 : PartNone 78 (viewV dims (.slice an ln cn) (.slice ap lp cp) (.slice aa la ca) (.slice ak lk ck)) w)
    (h3 : PartNone 79 (viewV dims (.slice an ln cn) (.slice ap lp cp) (.slice aa la ca) (.slice ak lk ck)) w)
    (h4 : PartNone 80 (viewV dims (.slice an ln cn) (.slice ap lp cp) (.slice aa la ca) (.slice ak lk ck)) w)
    (h5 : PartNone 81 (viewV dims (.slice an ln cn) (.slice ap lp cp) (.slice aa la ca) (.slice ak lk ck)) w) :
    Calls Tryz.prog 28 #[viewV dims (.slice an ln cn) (.slice ap lp cp) (.slice aa la ca) (.slice ak lk ck)] w fun e w' => e = .returned (.slice none 0 0) ∧ Below w.heap.size w w' := by
  have HT := Lib.hid h1
  have HC := Lib.hid h2
  have HP := Lib.hid h3
  have HL := Lib.hid h4
  have HI := Lib.hid h5
  clear h1 h2 h3 h4 h5
  go_enter Tryz.func28, Tryz.ntmps28
  go_wp2_with fail
  refine calls_named fun W0 hW0 => ?_
  have F0 : From w W0 := by rw [hW0]; exact (From.refl w).alloc _
  have b0 : W0.cell? ⟨w.heap.size, 0, none⟩ = some (.int .i64 dims) := by rw [hW0]; go_simp
  have b1 : W0.cell? ⟨w.heap.size, 1, none⟩ = some (.slice an ln cn) := by rw [hW0]; go_simp
  have b2 : W0.cell? ⟨w.heap.size, 2, none⟩ = some (.slice ap lp cp) := by rw [hW0]; go_simp
  have b3 : W0.cell? ⟨w.heap.size, 3, none⟩ = some (.slice aa la ca) := by rw [hW0]; go_simp
  have b4 : W0.cell? ⟨w.heap.size, 4, none⟩ = some (.slice ak lk ck) := by rw [hW0]; go_simp
  have HF0 := Lib.hid F0
  clear hW0 F0
  refine (parts_any _).mono ?_
  rintro e W1 ⟨he, hb⟩
  unfold partsV at he
  subst he
  have F1 : From W0 W1 := ⟨hb⟩
  have HG1 := Lib.hid (HF0.out.trans F1)
  have d0 := F1.cell b0
  have d1 := F1.cell b1
  have d2 := F1.cell b2
  have d3 := F1.cell b3
  have d4 := F1.cell b4
  clear hb F1 b0 b1 b2 b3 b4 HF0
  have hix0 := parts_idx0
  have hix1 := parts_idx1
  have hix2 := parts_idx2
  have hix3 := parts_idx3
  have hix4 := parts_idx4
  have hwl : w.heap.size < W1.heap.size := cell_lt d0
  have hwl2 : ¬ w.heap.size = W1.heap.size := by omega
  have hwl3 : ¬ W1.heap.size = w.heap.size := by omega
  go_wp2
  refine wp_loop_rounds 6 ?_
  rw [rounds_succ]
  go_wp2_with fail
  refine calls_named fun X1 hX1 => ?_
  have K1 : From W1 X1 := by rw [hX1]; exact (From.refl _).alloc _
  have e0 := K1.cell d0
  have e1 := K1.cell d1
  have e2 := K1.cell d2
  have e3 := K1.cell d3
  have e4 := K1.cell d4
  have g0 : X1.cell? ⟨W1.heap.size, 0, none⟩ = some (.int .i64 5) := by rw [hX1]; go_simp
  have HKG := Lib.hid (HG1.out.trans K1)
  clear hX1 K1 d0 d1 d2 d3 d4 HG1
  refine (HT.out _ HKG.out).mono ?_
  rintro e W2 ⟨ar, cr, rfl, hb⟩
  have F2 : From X1 W2 := ⟨hb⟩
  have HG2 := Lib.hid (HKG.out.trans F2)
  have d0 := F2.cell e0
  have d1 := F2.cell e1
  have d2 := F2.cell e2
  have d3 := F2.cell e3
  have d4 := F2.cell e4
  have y0 := F2.cell g0
  clear hb F2 e0 e1 e2 e3 e4 g0 HKG HT
  have hwl : w.heap.size < W2.heap.size := cell_lt d0
  have hwl2 : ¬ w.heap.size = W2.heap.size := by omega
  have hwl3 : ¬ W2.heap.size = w.heap.size := by omega
  clear y0
  go_wp2
  refine wp_loop_rounds 1 ?_
  rw [rounds_succ]
  go_wp2
  rw [rounds_succ]
  go_wp2_with fail
  refine calls_named fun X2 hX2 => ?_
  have K2 : From W2 X2 := by rw [hX2]; exact (From.refl _).alloc _
  have e0 := K2.cell d0
  have e1 := K2.cell d1
  have e2 := K2.cell d2
  have e3 := K2.cell d3
  have e4 := K2.cell d4
  have g0 : X2.cell? ⟨W2.heap.size, 0, none⟩ = some (.int .i64 1) := by rw [hX2]; go_simp
  have HKG := Lib.hid (HG2.out.trans K2)
  clear hX2 K2 d0 d1 d2 d3 d4 HG2
  refine (HC.out _ HKG.out).mono ?_
  rintro e W3 ⟨ar, cr, rfl, hb⟩
  have F3 : From X2 W3 := ⟨hb⟩
  have HG3 := Lib.hid (HKG.out.trans F3)
  have d0 := F3.cell e0
  have d1 := F3.cell e1
  have d2 := F3.cell e2
  have d3 := F3.cell e3
  have d4 := F3.cell e4
  have y0 := F3.cell g0
  clear hb F3 e0 e1 e2 e3 e4 g0 HKG HC
  have hwl : w.heap.size < W3.heap.size := cell_lt d0
  have hwl2 : ¬ w.heap.size = W3.heap.size := by omega
  have hwl3 : ¬ W3.heap.size = w.heap.size := by omega
  clear y0
  go_wp2
  refine wp_loop_rounds 1 ?_
  rw [rounds_succ]
  go_wp2
  rw [rounds_succ]
  go_wp2_with fail
  refine calls_named fun X3 hX3 => ?_
  have K3 : From W3 X3 := by rw [hX3]; exact (From.refl _).alloc _
  have e0 := K3.cell d0
  have e1 := K3.cell d1
  have e2 := K3.cell d2
  have e3 := K3.cell d3
  have e4 := K3.cell d4
  have g0 : X3.cell? ⟨W3.heap.size, 0, none⟩ = some (.int .i64 2) := by rw [hX3]; go_simp
  have HKG := Lib.hid (HG3.out.trans K3)
  clear hX3 K3 d0 d1 d2 d3 d4 HG3
  refine (HP.out _ HKG.out).mono ?_
  rintro e W4 ⟨ar, cr, rfl, hb⟩
  have F4 : From X3 W4 := ⟨hb⟩
  have HG4 := Lib.hid (HKG.out.trans F4)
  have d0 := F4.cell e0
  have d1 := F4.cell e1
  have d2 := F4.cell e2
  have d3 := F4.cell e3
  have d4 := F4.cell e4
  have y0 := F4.cell g0
  clear hb F4 e0 e1 e2 e3 e4 g0 HKG HP
  have hwl : w.heap.size < W4.heap.size := cell_lt d0
  have hwl2 : ¬ w.heap.size = W4.heap.size := by omega
  have hwl3 : ¬ W4.heap.size = w.heap.size := by omega
  clear y0
  go_wp2
  refine wp_loop_rounds 1 ?_
  rw [rounds_succ]
  go_wp2
  rw [rounds_succ]
  go_wp2_with fail
  refine calls_named fun X4 hX4 => ?_
  have K4 : From W4 X4 := by rw [hX4]; exact (From.refl _).alloc _
  have e0 := K4.cell d0
  have e1 := K4.cell d1
  have e2 := K4.cell d2
  have e3 := K4.cell d3
  have e4 := K4.cell d4
  have g0 : X4.cell? ⟨W4.heap.size, 0, none⟩ = some (.int .i64 3) := by rw [hX4]; go_simp
  have HKG := Lib.hid (HG4.out.trans K4)
  clear hX4 K4 d0 d1 d2 d3 d4 HG4
  refine (HL.out _ HKG.out).mono ?_
  rintro e W5 ⟨ar, cr, rfl, hb⟩
  have F5 : From X4 W5 := ⟨hb⟩
  have HG5 := Lib.hid (HKG.out.trans F5)
  have d0 := F5.cell e0
  have d1 := F5.cell e1
  have d2 := F5.cell e2
  have d3 := F5.cell e3
  have d4 := F5.cell e4
  have y0 := F5.cell g0
  clear hb F5 e0 e1 e2 e3 e4 g0 HKG HL
  have hwl : w.heap.size < W5.heap.size := cell_lt d0
  have hwl2 : ¬ w.heap.size = W5.heap.size := by omega
  have hwl3 : ¬ W5.heap.size = w.heap.size := by omega
  clear y0
  go_wp2
  refine wp_loop_rounds 1 ?_
  rw [rounds_succ]
  go_wp2
  rw [rounds_succ]
  go_wp2_with fail
  refine calls_named fun X5 hX5 => ?_
  have K5 : From W5 X5 := by rw [hX5]; exact (From.refl _).alloc _
  have e0 := K5.cell d0
  have e1 := K5.cell d1
  have e2 := K5.cell d2
  have e3 := K5.cell d3
  have e4 := K5.cell d4
  have g0 : X5.cell? ⟨W5.heap.size, 0, none⟩ = some (.int .i64 4) := by rw [hX5]; go_simp
  have HKG := Lib.hid (HG5.out.trans K5)
  clear hX5 K5 d0 d1 d2 d3 d4 HG5
  refine (HI.out _ HKG.out).mono ?_
  rintro e W6 ⟨ar, cr, rfl, hb⟩
  have F6 : From X5 W6 := ⟨hb⟩
  have HG6 := Lib.hid (HKG.out.trans F6)
  have d0 := F6.cell e0
  have d1 := F6.cell e1
  have d2 := F6.cell e2
  have d3 := F6.cell e3
  have d4 := F6.cell e4
  have y0 := F6.cell g0
  clear hb F6 e0 e1 e2 e3 e4 g0 HKG HI
  have hwl : w.heap.size < W6.heap.size := cell_lt d0
  have hwl2 : ¬ w.heap.size = W6.heap.size := by omega
  have hwl3 : ¬ W6.heap.size = w.heap.size := by omega
  clear y0
  go_wp2
  refine wp_loop_rounds 1 ?_
  rw [rounds_succ]
  go_wp2
  rw [rounds_succ]
  go_wp2
  go_ret
  exact ⟨rfl, HG6.out.out⟩
set_option maxHeartbeats 4000000 in
set_option maxRecDepth 100000 in
theorem check_one (dims : Int) (an ap aa ak : Option Addr) (ln lp la lk cn cp ca ck : Nat) (w : World)
    (h1 : PartNone 77 (viewV dims (.slice an ln cn) (.slice ap lp cp) (.slice aa la ca) (.slice ak lk ck)) w)
    (h2 : PartOne 78 (viewV dims (.slice an ln cn) (.slice ap lp cp) (.slice aa la ca) (.slice ak lk ck)) w)
    (h3 : PartNone 79 (viewV dims (.slice an ln cn) (.slice ap lp cp) (.slice aa la ca) (.slice ak lk ck)) w)
    (h4 : PartNone 80 (viewV dims (.slice an ln cn) (.slice ap lp cp) (.slice aa la ca) (.slice ak lk ck)) w)
    (h5 : PartNone 81 (viewV dims (.slice an ln cn) (.slice ap lp cp) (.slice aa la ca) (.slice ak lk ck)) w) :
    Calls Tryz.prog 28 #[viewV dims (.slice an ln cn) (.slice ap lp cp) (.slice aa la ca) (.slice ak lk ck)] w fun e w' => ∃ b c, e = .returned (.slice (some ⟨b, 0, none⟩) 1 c) ∧ w'.cell? ⟨b, 0, none⟩ = some (.int .i64 1) ∧ w'.cell? ⟨b, 1, none⟩ = some (.int .i64 7) ∧ Below w.heap.size w w' := by
  have HT := Lib.hid h1
  have HC := Lib.hid h2
  have HP := Lib.hid h3
  have HL := Lib.hid h4
  have HI := Lib.hid h5
  clear h1 h2 h3 h4 h5
  go_enter Tryz.func28, Tryz.ntmps28
  go_wp2_with fail
  refine calls_named fun W0 hW0 => ?_
  have F0 : From w W0 := by rw [hW0]; exact (From.refl w).alloc _
  have b0 : W0.cell? ⟨w.heap.size, 0, none⟩ = some (.int .i64 dims) := by rw [hW0]; go_simp
  have b1 : W0.cell? ⟨w.heap.size, 1, none⟩ = some (.slice an ln cn) := by rw [hW0]; go_simp
  have b2 : W0.cell? ⟨w.heap.size, 2, none⟩ = some (.slice ap lp cp) := by rw [hW0]; go_simp
  have b3 : W0.cell? ⟨w.heap.size, 3, none⟩ = some (.slice aa la ca) := by rw [hW0]; go_simp
  have b4 : W0.cell? ⟨w.heap.size, 4, none⟩ = some (.slice ak lk ck) := by rw [hW0]; go_simp
  have HF0 := Lib.hid F0
  clear hW0 F0
  refine (parts_any _).mono ?_
  rintro e W1 ⟨he, hb⟩
  unfold partsV at he
  subst he
  have F1 : From W0 W1 := ⟨hb⟩
  have HG1 := Lib.hid (HF0.out.trans F1)
  have d0 := F1.cell b0
  have d1 := F1.cell b1
  have d2 := F1.cell b2
  have d3 := F1.cell b3
  have d4 := F1.cell b4
  clear hb F1 b0 b1 b2 b3 b4 HF0
  have hix0 := parts_idx0
  have hix1 := parts_idx1
  have hix2 := parts_idx2
  have hix3 := parts_idx3
  have hix4 := parts_idx4
  have hwl : w.heap.size < W1.heap.size := cell_lt d0
  have hwl2 : ¬ w.heap.size = W1.heap.size := by omega
  have hwl3 : ¬ W1.heap.size = w.heap.size := by omega
  go_wp2
  refine wp_loop_rounds 6 ?_
  rw [rounds_succ]
  go_wp2_with fail
  refine calls_named fun X1 hX1 => ?_
  have K1 : From W1 X1 := by rw [hX1]; exact (From.refl _).alloc _
  have e0 := K1.cell d0
  have e1 := K1.cell d1
  have e2 := K1.cell d2
  have e3 := K1.cell d3
  have e4 := K1.cell d4
  have g0 : X1.cell? ⟨W1.heap.size, 0, none⟩ = some (.int .i64 5) := by rw [hX1]; go_simp
  have HKG := Lib.hid (HG1.out.trans K1)
  clear hX1 K1 d0 d1 d2 d3 d4 HG1
  refine (HT.out _ HKG.out).mono ?_
  rintro e W2 ⟨ar, cr, rfl, hb⟩
  have F2 : From X1 W2 := ⟨hb⟩
  have HG2 := Lib.hid (HKG.out.trans F2)
  have d0 := F2.cell e0
  have d1 := F2.cell e1
  have d2 := F2.cell e2
  have d3 := F2.cell e3
  have d4 := F2.cell e4
  have y0 := F2.cell g0
  clear hb F2 e0 e1 e2 e3 e4 g0 HKG HT
  have hwl : w.heap.size < W2.heap.size := cell_lt d0
  have hwl2 : ¬ w.heap.size = W2.heap.size := by omega
  have hwl3 : ¬ W2.heap.size = w.heap.size := by omega
  clear y0
  go_wp2
  refine wp_loop_rounds 1 ?_
  rw [rounds_succ]
  go_wp2
  rw [rounds_succ]
  go_wp2_with fail
  refine calls_named fun X2 hX2 => ?_
  have K2 : From W2 X2 := by rw [hX2]; exact (From.refl _).alloc _
  have e0 := K2.cell d0
  have e1 := K2.cell d1
  have e2 := K2.cell d2
  have e3 := K2.cell d3
  have e4 := K2.cell d4
  have g0 : X2.cell? ⟨W2.heap.size, 0, none⟩ = some (.int .i64 1) := by rw [hX2]; go_simp
  have HKG := Lib.hid (HG2.out.trans K2)
  clear hX2 K2 d0 d1 d2 d3 d4 HG2
  refine (HC.out _ HKG.out).mono ?_
  rintro e W3 ⟨br, cr, rfl, hr, hb⟩
  have F3 : From X2 W3 := ⟨hb⟩
  have HG3 := Lib.hid (HKG.out.trans F3)
  have d0 := F3.cell e0
  have d1 := F3.cell e1
  have d2 := F3.cell e2
  have d3 := F3.cell e3
  have d4 := F3.cell e4
  have y0 := F3.cell g0
  clear hb F3 e0 e1 e2 e3 e4 g0 HKG HC
  have hwl : w.heap.size < W3.heap.size := cell_lt d0
  have hwl2 : ¬ w.heap.size = W3.heap.size := by omega
  have hwl3 : ¬ W3.heap.size = w.heap.size := by omega
  go_wp2
  refine wp_loop_rounds 2 ?_
  rw [rounds_succ]
  go_wp2
  generalize (Question.appendCap 1 0 109).cut (W3.tape W3.drawn (Question.appendCap 1 0 109)) = cq
  generalize hZ : ((W3.alloc (Obj.cells #[.int .i64 1, .int .i64 7] 109)).alloc (Obj.cells (#[.int .i64 1, .int .i64 7] ++ Builtin.zeroCells #[.int .i64 0, .int .i64 0] (cq - 1)) 109)).drew = Z
  have hfz : From W3 Z := by rw [← hZ]; exact (((From.refl _).alloc _).alloc _).drew
  have q0 : Z.cell? ⟨W3.heap.size + 1, 0, none⟩ = some (.int .i64 1) := by rw [← hZ]; exact app_cell0 _ _ _ _ _ _
  have q1 : Z.cell? ⟨W3.heap.size + 1, 1, none⟩ = some (.int .i64 7) := by rw [← hZ]; exact app_cell1 _ _ _ _ _ _
  generalize W3.heap.size + 1 = bz at *
  have HGZ := Lib.hid (HG3.out.trans hfz)
  have e0 := hfz.cell d0
  have e1 := hfz.cell d1
  have e2 := hfz.cell d2
  have e3 := hfz.cell d3
  have e4 := hfz.cell d4
  clear hZ hfz d0 d1 d2 d3 d4 HG3 y0 hr
  clear hwl hwl2 hwl3
  rename_i W3'
  have d0 := e0
  have d1 := e1
  have d2 := e2
  have d3 := e3
  have d4 := e4
  clear e0 e1 e2 e3 e4
  have HG3 := HGZ
  clear HGZ
  have hwl : w.heap.size < Z.heap.size := cell_lt d0
  have hwl2 : ¬ w.heap.size = Z.heap.size := by omega
  have hwl3 : ¬ Z.heap.size = w.heap.size := by omega
  rw [rounds_succ]
  go_wp2
  rw [rounds_succ]
  go_wp2_with fail
  refine calls_named fun X3 hX3 => ?_
  have K3 : From Z X3 := by rw [hX3]; exact (From.refl _).alloc _
  have e0 := K3.cell d0
  have e1 := K3.cell d1
  have e2 := K3.cell d2
  have e3 := K3.cell d3
  have e4 := K3.cell d4
  have g0 : X3.cell? ⟨Z.heap.size, 0, none⟩ = some (.int .i64 2) := by rw [hX3]; go_simp
  have HKG := Lib.hid (HG3.out.trans K3)
  have p0 := K3.cell q0
  have p1 := K3.cell q1
  clear hX3 K3 d0 d1 d2 d3 d4 HG3 q0 q1
  refine (HP.out _ HKG.out).mono ?_
  rintro e W4 ⟨ar, cr, rfl, hb⟩
  have F4 : From X3 W4 := ⟨hb⟩
  have HG4 := Lib.hid (HKG.out.trans F4)
  have d0 := F4.cell e0
  have d1 := F4.cell e1
  have d2 := F4.cell e2
  have d3 := F4.cell e3
  have d4 := F4.cell e4
  have y0 := F4.cell g0
  have q0 := F4.cell p0
  have q1 := F4.cell p1
  clear p0 p1
  clear hb F4 e0 e1 e2 e3 e4 g0 HKG HP
  have hwl : w.heap.size < W4.heap.size := cell_lt d0
  have hwl2 : ¬ w.heap.size = W4.heap.size := by omega
  have hwl3 : ¬ W4.heap.size = w.heap.size := by omega
  clear y0
  go_wp2
  refine wp_loop_rounds 1 ?_
  rw [rounds_succ]
  go_wp2
  rw [rounds_succ]
  go_wp2_with fail
  refine calls_named fun X4 hX4 => ?_
  have K4 : From W4 X4 := by rw [hX4]; exact (From.refl _).alloc _
  have e0 := K4.cell d0
  have e1 := K4.cell d1
  have e2 := K4.cell d2
  have e3 := K4.cell d3
  have e4 := K4.cell d4
  have g0 : X4.cell? ⟨W4.heap.size, 0, none⟩ = some (.int .i64 3) := by rw [hX4]; go_simp
  have HKG := Lib.hid (HG4.out.trans K4)
  have p0 := K4.cell q0
  have p1 := K4.cell q1
  clear hX4 K4 d0 d1 d2 d3 d4 HG4 q0 q1
  refine (HL.out _ HKG.out).mono ?_
  rintro e W5 ⟨ar, cr, rfl, hb⟩
  have F5 : From X4 W5 := ⟨hb⟩
  have HG5 := Lib.hid (HKG.out.trans F5)
  have d0 := F5.cell e0
  have d1 := F5.cell e1
  have d2 := F5.cell e2
  have d3 := F5.cell e3
  have d4 := F5.cell e4
  have y0 := F5.cell g0
  have q0 := F5.cell p0
  have q1 := F5.cell p1
  clear p0 p1
  clear hb F5 e0 e1 e2 e3 e4 g0 HKG HL
  have hwl : w.heap.size < W5.heap.size := cell_lt d0
  have hwl2 : ¬ w.heap.size = W5.heap.size := by omega
  have hwl3 : ¬ W5.heap.size = w.heap.size := by omega
  clear y0
  go_wp2
  refine wp_loop_rounds 1 ?_
  rw [rounds_succ]
  go_wp2
  rw [rounds_succ]
  go_wp2_with fail
  refine calls_named fun X5 hX5 => ?_
  have K5 : From W5 X5 := by rw [hX5]; exact (From.refl _).alloc _
  have e0 := K5.cell d0
  have e1 := K5.cell d1
  have e2 := K5.cell d2
  have e3 := K5.cell d3
  have e4 := K5.cell d4
  have g0 : X5.cell? ⟨W5.heap.size, 0, none⟩ = some (.int .i64 4) := by rw [hX5]; go_simp
  have HKG := Lib.hid (HG5.out.trans K5)
  have p0 := K5.cell q0
  have p1 := K5.cell q1
  clear hX5 K5 d0 d1 d2 d3 d4 HG5 q0 q1
  refine (HI.out _ HKG.out).mono ?_
  rintro e W6 ⟨ar, cr, rfl, hb⟩
  have F6 : From X5 W6 := ⟨hb⟩
  have HG6 := Lib.hid (HKG.out.trans F6)
  have d0 := F6.cell e0
  have d1 := F6.cell e1
  have d2 := F6.cell e2
  have d3 := F6.cell e3
  have d4 := F6.cell e4
  have y0 := F6.cell g0
  have q0 := F6.cell p0
  have q1 := F6.cell p1
  clear p0 p1
  clear hb F6 e0 e1 e2 e3 e4 g0 HKG HI
  have hwl : w.heap.size < W6.heap.size := cell_lt d0
  have hwl2 : ¬ w.heap.size = W6.heap.size := by omega
  have hwl3 : ¬ W6.heap.size = w.heap.size := by omega
  clear y0
  go_wp2
  refine wp_loop_rounds 1 ?_
  rw [rounds_succ]
  go_wp2
  rw [rounds_succ]
  go_wp2
  go_ret
  exact ⟨_, _, rfl, q0, q1, HG6.out.out⟩
end Go.Proofs.YtllipidegjpidaaGreatDoor
