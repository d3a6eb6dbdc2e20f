/- The closures of audit.phases, places and lists at the pods of awake. -/
import Derived.Test.YtkdmjpakpmnhgaaGreatDoorAuT
import Derived.Test.YtkdmjpakpmnhgaaGreatDoorAuO
namespace Go.Proofs.YtkdmjpakpmnhgaaGreatDoor
set_option linter.all false
open Go.RowKit

set_option maxHeartbeats 1000000 in
set_option maxRecDepth 100000 in
theorem phases_c (i : Int) (g br : Nat) (s : ByteArray) (w : World) (hs : s.toList.isEmpty = false) (hn : w.cell? ⟨1, 3, none⟩ = some (.string s)) (hg : w.cell? ⟨g, 0, none⟩ = some (.int .i64 1)) :
    Calls Tryz.prog 47 #[awPod br i, .pointer (some ⟨g, 0, none⟩)] w fun e w' => e = .returned (.bool false) ∧ From w w' := by
  have HP := Lib.hid (placed_any 3)
  have HN := Lib.hid fun w' h => phaseName_in 3 s w' (by omega) h
  rw [show placedB 3 = true from rfl] at HP
  go_enter Tryz.func47, Tryz.ntmps47
  go_wp2_with fail
  refine calls_named fun X hX => ?_
  have F1 : From w X := by rw [hX]; exact (From.refl w).alloc _
  have n1 := F1.cell hn
  have g1 := F1.cell hg
  have e4 : X.cell? ⟨w.heap.size, 4, none⟩ = some (.slice (some ⟨br, 0, none⟩) 1 1) := by rw [hX]; go_simp
  have e6 : X.cell? ⟨w.heap.size, 6, none⟩ = some (.int .i64 3) := by rw [hX]; go_simp
  have e7 : X.cell? ⟨w.heap.size, 7, none⟩ = some (.int .i64 7) := by rw [hX]; go_simp
  have e8 : X.cell? ⟨w.heap.size, 8, none⟩ = some (.int .i64 (-1)) := by rw [hX]; go_simp
  clear hX hn hg
  refine (HP.out _).mono ?_
  rintro e w1 ⟨rfl, rfl⟩
  go_wp2_with (go_at_call 48; refine (HN.out _ n1).mono ?_; rintro e w2 ⟨rfl, rfl⟩)
  go_ret
  exact ⟨rfl, F1⟩
set_option maxHeartbeats 1000000 in
set_option maxRecDepth 100000 in
theorem places_c (i : Int) (g br m : Nat) (w : World) (hg : w.cell? ⟨g, 0, none⟩ = some (.map (some m))) (hm : MapI w m [(7, .bool true)]) :
    Calls Tryz.prog 49 #[awPod br i, .pointer (some ⟨g, 0, none⟩)] w fun e w' => e = .returned (.bool false) ∧ From w w' := by
  have HP := Lib.hid (placed_any 3)
  rw [show placedB 3 = true from rfl] at HP
  go_enter Tryz.func49, Tryz.ntmps49
  go_wp2_with fail
  refine calls_named fun X hX => ?_
  have F1 : From w X := by rw [hX]; exact (From.refl w).alloc _
  have g1 := F1.cell hg
  have m1 := hm.below F1.out
  have e7 : X.cell? ⟨w.heap.size, 7, none⟩ = some (.int .i64 7) := by rw [hX]; go_simp
  have l1 : (Instr.lookup 86 (.map (some m)) (.int .i64 7) false).run Tryz.prog X = .ok (.bool true) X := (lookI_bool m1 7).trans rfl
  clear hX hm hg m1
  refine (HP.out _).mono ?_
  rintro e w1 ⟨rfl, rfl⟩
  go_wp2
  go_ret
  exact ⟨rfl, F1⟩
set_option maxHeartbeats 1000000 in
set_option maxRecDepth 100000 in
theorem lists_c (i : Int) (g g2 br mk ml : Nat) (w : World) (kvs : List (Int × Value)) (hg : w.cell? ⟨g, 0, none⟩ = some (.map (some mk))) (hg2 : w.cell? ⟨g2, 0, none⟩ = some (.map (some ml)))
    (hk : MapI w mk kvs) (hl : MapI w ml []) (hne : ml ≠ mk) (hgm : g2 ≠ mk) :
    Calls Tryz.prog 50 #[awPod br i, .pointer (some ⟨g, 0, none⟩), .pointer (some ⟨g2, 0, none⟩)] w fun e w' => e = .returned (.bool false) ∧
      MapI w' mk (setI kvs i (.bool true)) ∧ (∃ X, From w X ∧ Upd mk X w') := by
  have HP := Lib.hid (waits_any 3)
  rw [show waitsB 3 = false from rfl] at HP
  obtain ⟨X, hX⟩ : ∃ X, X = w.alloc (.cells #[.int .i64 i, .int .i64 0, .bool false, .int .i64 0, .slice (some ⟨br, 0, none⟩) 1 1, .int .i64 0, .int .i64 3, .int .i64 7, .int .i64 (-1)] 31) := ⟨_, rfl⟩
  have F1 : From w X := by rw [hX]; exact (From.refl w).alloc _
  have hml := hk.lt
  have g1 := F1.cell hg
  have g3 := F1.cell hg2
  have k1 := hk.below F1.out
  have l1 := hl.below F1.out
  have e0 : X.cell? ⟨w.heap.size, 0, none⟩ = some (.int .i64 i) := by rw [hX]; go_simp
  have e6 : X.cell? ⟨w.heap.size, 6, none⟩ = some (.int .i64 3) := by rw [hX]; go_simp
  obtain ⟨Y, hu, V, U⟩ := updI_bool k1 i (.bool true)
  have y0 := U.cell (by omega) e0
  have y6 := U.cell (by omega) e6
  have y3 := U.cell hgm g3
  have L1 : (Instr.lookup 83 (.map (some ml)) (.int .i64 i) false).run Tryz.prog Y = .ok (.int .i64 0) Y := (lookI_int (U.map hne l1) i).trans rfl
  have HR : Hid (MapI Y mk (setI kvs i (.bool true)) ∧ (∃ X, From w X ∧ Upd mk X Y)) := ⟨V, X, F1, U⟩
  have hgl := cell_lt hg
  have hgl2 := cell_lt hg2
  clear hk hl hne hgm F1 k1 l1 V U hml e0 e6 g1 g3
  subst hX
  go_enter Tryz.func50, Tryz.ntmps50
  go_wp2_with fail
  refine (HP.out _).mono ?_
  rintro e w2 ⟨rfl, rfl⟩
  go_wp2
  go_ret
  exact ⟨rfl, HR.out⟩
end Go.Proofs.YtkdmjpakpmnhgaaGreatDoor
