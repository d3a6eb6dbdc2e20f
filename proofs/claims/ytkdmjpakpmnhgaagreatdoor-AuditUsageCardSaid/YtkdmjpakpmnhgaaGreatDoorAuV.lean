/- audit.phases, places and lists of the views of awake. -/
import Derived.Test.YtkdmjpakpmnhgaaGreatDoorAuU
namespace Go.Proofs.YtkdmjpakpmnhgaaGreatDoor
set_option linter.all false
open Go.RowKit

set_option maxHeartbeats 1000000 in
set_option maxRecDepth 100000 in
theorem phases0 (w : World) : Calls Tryz.prog 35 #[noView] w fun e w' => ∃ a c, e = .returned (.slice a 0 c) ∧ Below w.heap.size w w' := by
  have HP := Lib.hid fun g w' => pods0_ph g w'
  go_enter Tryz.func35, Tryz.ntmps35
  go_wp2_with fail
  refine calls_named fun X hX => ?_
  have F1 : From w X := by rw [hX]; exact (From.refl w).alloc _
  clear hX
  refine (HP.out _ _).mono ?_
  rintro e w1 ⟨rfl, hf⟩
  go_wp2
  go_ret
  exact ⟨_, _, rfl, (F1.trans hf).out⟩
set_option maxHeartbeats 1000000 in
set_option maxRecDepth 100000 in
theorem phases1 (w : World) (bn bp bc br : Nat) (s : ByteArray) (hs : s.toList.isEmpty = false) (h : AwV w bn bp bc br) (hn : w.cell? ⟨1, 3, none⟩ = some (.string s)) : Calls Tryz.prog 35 #[awView bn bp] w fun e w' => ∃ a c, e = .returned (.slice a 0 c) ∧ Below w.heap.size w w' := by
  have HC := Lib.hid fun i g br w hn hg => phases_c i g br s w hs hn hg
  have HP := Lib.hid fun g I X => pods1_ph g I X bn bp bc br
  have HA := Lib.hid h
  have HN := Lib.hid hn
  clear h hn
  go_enter Tryz.func35, Tryz.ntmps35
  go_wp2_with fail
  refine calls_named fun X hX => ?_
  have F1 : From w X := by rw [hX]; exact (From.refl w).alloc _
  have b0 : X.cell? ⟨w.heap.size, 0, none⟩ = some (.int .i64 1) := by rw [hX]; go_simp
  have n0 := F1.cell HN.out
  have A1 := HA.out.below F1.out
  clear hX
  refine (HP.out _ (fun _ Y => From X Y) X (From.refl X) (fun i Y Z f h => h.trans f) (fun i Y h => A1.below h.out)
    (fun Y h => (HC.out 1 _ br Y (h.cell n0) (h.cell b0)).mono (fun e Z hz => ⟨hz.1, h.trans hz.2⟩))
    (fun Y h => (HC.out 2 _ br Y (h.cell n0) (h.cell b0)).mono (fun e Z hz => ⟨hz.1, h.trans hz.2⟩))).mono ?_
  rintro e w1 ⟨rfl, hf⟩
  go_wp2
  go_ret
  exact ⟨_, _, rfl, (F1.trans hf).out⟩
set_option maxHeartbeats 1000000 in
set_option maxRecDepth 100000 in
theorem places0 (w : World) : Calls Tryz.prog 36 #[noView] w fun e w' => ∃ a c, e = .returned (.slice a 0 c) ∧ Below w.heap.size w w' := by
  have HP := Lib.hid fun g w' => pods0_pl g w'
  have hmm := @run_makeMap Tryz.prog
  go_enter Tryz.func36, Tryz.ntmps36
  go_wp2
  refine wp_loop_rounds 1 ?_
  rw [rounds_succ]
  go_wp2_with fail
  refine calls_named fun X hX => ?_
  have F1 : From w X := by rw [hX]; exact (((From.refl w).alloc _).alloc _).alloc _
  clear hX
  refine (HP.out _ _).mono ?_
  rintro e w1 ⟨rfl, hf⟩
  go_wp2
  go_ret
  exact ⟨_, _, rfl, (F1.trans hf).out⟩
set_option maxHeartbeats 1000000 in
set_option maxRecDepth 100000 in
theorem places1 (w : World) (bn bp bc br : Nat) (h : AwV w bn bp bc br) : Calls Tryz.prog 36 #[awView bn bp] w fun e w' => ∃ a c, e = .returned (.slice a 0 c) ∧ Below w.heap.size w w' := by
  have HC := Lib.hid fun i g br m w hg hm => places_c i g br m w hg hm
  have HP := Lib.hid fun g I X => pods1_pl g I X bn bp bc br
  have HA := Lib.hid h
  have hmm := @run_makeMap Tryz.prog
  clear h
  go_enter Tryz.func36, Tryz.ntmps36
  go_wp2
  refine wp_loop_rounds 2 ?_
  refine rounds_named fun W1 hW1 => ?_
  have F1 : From w W1 := by rw [hW1]; exact (((From.refl w).alloc _).alloc _).alloc _
  have M1 : MapI W1 (w.heap.size + 1) [] := by
    have := MapI.new (w.alloc (.cells #[.int .i64 1, .slice (some ⟨bn, 0, none⟩) 1 1, .slice (some ⟨bp, 0, none⟩) 2 2, .slice none 0 0, .slice none 0 0] 33))
    have h2 := this.below ((From.refl _).alloc (.cells #[.map (some (w.heap.size + 1))] 86)).out
    rw [hW1]; simpa using h2
  have b0 : W1.cell? ⟨w.heap.size, 0, none⟩ = some (.int .i64 1) := by rw [hW1]; go_simp
  have b1 : W1.cell? ⟨w.heap.size, 1, none⟩ = some (.slice (some ⟨bn, 0, none⟩) 1 1) := by rw [hW1]; go_simp
  have b2 : W1.cell? ⟨w.heap.size, 2, none⟩ = some (.slice (some ⟨bp, 0, none⟩) 2 2) := by rw [hW1]; go_simp
  have b3 : W1.cell? ⟨w.heap.size, 3, none⟩ = some (.slice none 0 0) := by rw [hW1]; go_simp
  have b4 : W1.cell? ⟨w.heap.size, 4, none⟩ = some (.slice none 0 0) := by rw [hW1]; go_simp
  have d0 : W1.cell? ⟨w.heap.size + 1 + 1, 0, none⟩ = some (.map (some (w.heap.size + 1))) := by rw [hW1]; go_simp
  obtain ⟨m1, hm1⟩ : ∃ m1, m1 = w.heap.size + 1 := ⟨_, rfl⟩
  rw [← hm1] at M1 d0 ⊢
  have hwm : w.heap.size < m1 := by omega
  clear hW1 hm1
  have hl1 := cell_lt d0
  have A1 := HA.out.below F1.out
  have n0 := A1.n0
  have n1 := A1.n1
  have P1 : From W1 (W1.alloc (.cells #[.int .i64 7, .slice (some ⟨bc, 0, none⟩) 1 1] 40)) := (From.refl _).alloc _
  have N1 := M1.below P1.out
  obtain ⟨W2, u1, V1, U1⟩ := updI_bool N1 7 (.bool true)
  have B2 : Below w.heap.size w W2 := (F1.out.alloc F1.out.size _).trans (U1.below (by omega))
  have e0 := U1.cell (by omega) (P1.cell b0)
  have e1 := U1.cell (by omega) (P1.cell b1)
  have e2 := U1.cell (by omega) (P1.cell b2)
  have e3 := U1.cell (by omega) (P1.cell b3)
  have e4 := U1.cell (by omega) (P1.cell b4)
  have f0 := U1.cell (by omega) (P1.cell d0)
  have H2 : Hid (Below w.heap.size w W2 ∧ MapI W2 m1 [(7, .bool true)]) := ⟨B2, V1⟩
  clear P1 N1 V1 U1 B2 A1 F1 M1
  rw [rounds_succ]
  go_wp2
  rw [rounds_succ]
  go_wp2_with fail
  refine (HP.out _ (fun _ Y => From W2 Y) W2 (From.refl W2) (fun i Y Z f h => h.trans f) (fun i Y h => (HA.out.below H2.out.1).below h.out)
    (fun Y h => (HC.out 1 _ br m1 Y (h.cell f0) (H2.out.2.below h.out)).mono (fun e Z hz => ⟨hz.1, h.trans hz.2⟩))
    (fun Y h => (HC.out 2 _ br m1 Y (h.cell f0) (H2.out.2.below h.out)).mono (fun e Z hz => ⟨hz.1, h.trans hz.2⟩))).mono ?_
  rintro e w1 ⟨rfl, hf⟩
  go_wp2
  go_ret
  exact ⟨_, _, rfl, H2.out.1.trans (hf.out.mono H2.out.1.size)⟩
end Go.Proofs.YtkdmjpakpmnhgaaGreatDoor
