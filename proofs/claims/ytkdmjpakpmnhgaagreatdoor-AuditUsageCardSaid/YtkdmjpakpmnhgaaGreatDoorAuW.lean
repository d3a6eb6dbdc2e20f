/- audit.lists of the views of awake. -/
import Derived.Test.YtkdmjpakpmnhgaaGreatDoorAuU
import Derived.Deep.RegionWith
namespace Go.Proofs.YtkdmjpakpmnhgaaGreatDoor
set_option linter.all false
open Go.RowKit

/-- What the closure of audit.lists leaves known. -/
def lst : Nat → List (Int × Value)
  | 0 => []
  | 1 => [(1, .bool true)]
  | _ => [(1, .bool true), (2, .bool true)]
theorem lists_keep {w Y Z : World} {m1 : Nat} {kvs kvs' : List (Int × Value)} (hwm : w.heap.size < m1) (h : Below w.heap.size w Y ∧ Y.cell? ⟨m1 + 1 + 1, 0, none⟩ = some (.map (some m1)) ∧ Y.cell? ⟨m1 + 1 + 1 + 1, 0, none⟩ = some (.map (some (m1 + 1))) ∧ MapI Y m1 kvs ∧ MapI Y (m1 + 1) [])
    (hm : MapI Z m1 kvs') (hu : ∃ X, From Y X ∧ Upd m1 X Z) : Below w.heap.size w Z ∧ Z.cell? ⟨m1 + 1 + 1, 0, none⟩ = some (.map (some m1)) ∧ Z.cell? ⟨m1 + 1 + 1 + 1, 0, none⟩ = some (.map (some (m1 + 1))) ∧ MapI Z m1 kvs' ∧ MapI Z (m1 + 1) [] := by
  obtain ⟨X, f, u⟩ := hu
  exact ⟨(h.1.trans (f.out.mono h.1.size)).trans (u.below (by omega)), u.cell (by omega) (f.cell h.2.1), u.cell (by omega) (f.cell h.2.2.1), hm, u.map (by omega) (h.2.2.2.2.below f.out)⟩
set_option maxHeartbeats 1000000 in
set_option maxRecDepth 100000 in
theorem lists0 (w : World) : Calls Tryz.prog 37 #[noView] w fun e w' => ∃ a c, e = .returned (.slice a 0 c) ∧ Below w.heap.size w w' := by
  have HP := Lib.hid fun g g2 w' => pods0_li g g2 w'
  have hmm := @run_makeMap Tryz.prog
  go_enter Tryz.func37, Tryz.ntmps37
  go_wp2
  refine wp_named fun W1 hW1 => ?_
  have F1 : From w W1 := by rw [hW1]; exact (((((From.refl w).alloc _).alloc _).alloc _).alloc _).alloc _
  have M1 : MapI W1 (w.heap.size + 1) [] := by
    have := MapI.new (w.alloc (.cells #[.int .i64 0, .slice none 0 0, .slice none 0 0, .slice none 0 0, .slice none 0 0] 33))
    have h2 := this.below ((((From.refl _).alloc (.map #[] 0)).alloc (.cells #[.map (some (w.heap.size + 1))] 86)).alloc (.cells #[.map (some (w.heap.size + 1 + 1))] 83)).out
    rw [hW1]; simpa using h2
  have M2 : MapI W1 (w.heap.size + 1 + 1) [] := by
    have := MapI.new ((w.alloc (.cells #[.int .i64 0, .slice none 0 0, .slice none 0 0, .slice none 0 0, .slice none 0 0] 33)).alloc (.map #[] 0))
    have h2 := this.below (((From.refl _).alloc (.cells #[.map (some (w.heap.size + 1))] 86)).alloc (.cells #[.map (some (w.heap.size + 1 + 1))] 83)).out
    rw [hW1]; simpa using h2
  have b0 : W1.cell? ⟨w.heap.size, 0, none⟩ = some (.int .i64 0) := by rw [hW1]; go_simp
  have b1 : W1.cell? ⟨w.heap.size, 1, none⟩ = some (.slice none 0 0) := by rw [hW1]; go_simp
  have b2 : W1.cell? ⟨w.heap.size, 2, none⟩ = some (.slice none 0 0) := by rw [hW1]; go_simp
  have b3 : W1.cell? ⟨w.heap.size, 3, none⟩ = some (.slice none 0 0) := by rw [hW1]; go_simp
  have b4 : W1.cell? ⟨w.heap.size, 4, none⟩ = some (.slice none 0 0) := by rw [hW1]; go_simp
  have d0 : W1.cell? ⟨w.heap.size + 1 + 1 + 1, 0, none⟩ = some (.map (some (w.heap.size + 1))) := by rw [hW1]; go_simp
  have d1 : W1.cell? ⟨w.heap.size + 1 + 1 + 1 + 1, 0, none⟩ = some (.map (some (w.heap.size + 1 + 1))) := by rw [hW1]; go_simp
  obtain ⟨m1, hm1⟩ : ∃ m1, m1 = w.heap.size + 1 := ⟨_, rfl⟩
  rw [← hm1] at M1 M2 d0 d1 ⊢
  have hwm : w.heap.size < m1 := by omega
  clear hW1 hm1
  have HM1 := Lib.hid M1
  have HM2 := Lib.hid M2
  have HF1 := Lib.hid F1
  clear M1 M2 F1
  go_region
  have FD : From W1 W1.drew := (From.refl W1).drew
  have b0 := FD.cell b0
  have b1 := FD.cell b1
  have b2 := FD.cell b2
  have b3 := FD.cell b3
  have b4 := FD.cell b4
  have d0 := FD.cell d0
  have d1 := FD.cell d1
  have HM1 := Lib.hid (HM1.out.below FD.out)
  have HM2 := Lib.hid (HM2.out.below FD.out)
  have HF1 := Lib.hid (HF1.out.trans FD)
  clear FD
  generalize W1.drew = W2 at *
  go_wp2
  refine wp_loop_rounds 1 ?_
  rw [rounds_succ]
  go_wp2_with fail
  refine (HP.out _ _ _).mono ?_
  rintro e w1 ⟨rfl, hf⟩
  go_wp2
  refine wp_loop_rounds 1 ?_
  rw [rounds_succ]
  go_wp2
  go_ret
  exact ⟨_, _, rfl, (HF1.out.trans hf).out⟩
set_option maxHeartbeats 1000000 in
set_option maxRecDepth 100000 in
theorem lists1 (w : World) (bn bp bc br : Nat) (h : AwV w bn bp bc br) : Calls Tryz.prog 37 #[awView bn bp] w fun e w' => ∃ a c, e = .returned (.slice a 0 c) ∧ Below w.heap.size w w' := by
  have HC := Lib.hid fun i g g2 br mk ml w kvs h1 h2 h3 h4 h5 h6 => lists_c i g g2 br mk ml w kvs h1 h2 h3 h4 h5 h6
  have HP := Lib.hid fun g g2 I X => pods1_li g g2 I X bn bp bc br
  have HA := Lib.hid h
  have hmm := @run_makeMap Tryz.prog
  clear h
  go_enter Tryz.func37, Tryz.ntmps37
  go_wp2
  refine wp_named fun W1 hW1 => ?_
  have F1 : From w W1 := by rw [hW1]; exact (((((From.refl w).alloc _).alloc _).alloc _).alloc _).alloc _
  have M1 : MapI W1 (w.heap.size + 1) [] := by
    have := MapI.new (w.alloc (.cells #[.int .i64 1, .slice (some ⟨bn, 0, none⟩) 1 1, .slice (some ⟨bp, 0, none⟩) 2 2, .slice none 0 0, .slice none 0 0] 33))
    have h2 := this.below ((((From.refl _).alloc (.map #[] 0)).alloc (.cells #[.map (some (w.heap.size + 1))] 86)).alloc (.cells #[.map (some (w.heap.size + 1 + 1))] 83)).out
    rw [hW1]; simpa using h2
  have M2 : MapI W1 (w.heap.size + 1 + 1) [] := by
    have := MapI.new ((w.alloc (.cells #[.int .i64 1, .slice (some ⟨bn, 0, none⟩) 1 1, .slice (some ⟨bp, 0, none⟩) 2 2, .slice none 0 0, .slice none 0 0] 33)).alloc (.map #[] 0))
    have h2 := this.below (((From.refl _).alloc (.cells #[.map (some (w.heap.size + 1))] 86)).alloc (.cells #[.map (some (w.heap.size + 1 + 1))] 83)).out
    rw [hW1]; simpa using h2
  have b0 : W1.cell? ⟨w.heap.size, 0, none⟩ = some (.int .i64 1) := by rw [hW1]; go_simp
  have b1 : W1.cell? ⟨w.heap.size, 1, none⟩ = some (.slice (some ⟨bn, 0, none⟩) 1 1) := by rw [hW1]; go_simp
  have b2 : W1.cell? ⟨w.heap.size, 2, none⟩ = some (.slice (some ⟨bp, 0, none⟩) 2 2) := by rw [hW1]; go_simp
  have b3 : W1.cell? ⟨w.heap.size, 3, none⟩ = some (.slice none 0 0) := by rw [hW1]; go_simp
  have b4 : W1.cell? ⟨w.heap.size, 4, none⟩ = some (.slice none 0 0) := by rw [hW1]; go_simp
  have d0 : W1.cell? ⟨w.heap.size + 1 + 1 + 1, 0, none⟩ = some (.map (some (w.heap.size + 1))) := by rw [hW1]; go_simp
  have d1 : W1.cell? ⟨w.heap.size + 1 + 1 + 1 + 1, 0, none⟩ = some (.map (some (w.heap.size + 1 + 1))) := by rw [hW1]; go_simp
  obtain ⟨m1, hm1⟩ : ∃ m1, m1 = w.heap.size + 1 := ⟨_, rfl⟩
  rw [← hm1] at M1 M2 d0 d1 ⊢
  have hwm : w.heap.size < m1 := by omega
  clear hW1 hm1
  have HM1 := Lib.hid M1
  have HM2 := Lib.hid M2
  have HF1 := Lib.hid F1
  clear M1 M2 F1
  go_region
  have FD : From W1 W1.drew := (From.refl W1).drew
  have b0 := FD.cell b0
  have b1 := FD.cell b1
  have b2 := FD.cell b2
  have b3 := FD.cell b3
  have b4 := FD.cell b4
  have d0 := FD.cell d0
  have d1 := FD.cell d1
  have HM1 := Lib.hid (HM1.out.below FD.out)
  have HM2 := Lib.hid (HM2.out.below FD.out)
  have HF1 := Lib.hid (HF1.out.trans FD)
  clear FD
  generalize W1.drew = W2 at *
  go_wp2
  refine wp_loop_rounds 1 ?_
  rw [rounds_succ]
  go_wp2_with fail
  have A0 : ∀ X, Below w.heap.size w X → AwV X bn bp bc br := fun X h => HA.out.below h
  refine (HP.out _ _ (fun i Y => Below w.heap.size w Y ∧ Y.cell? ⟨m1 + 1 + 1, 0, none⟩ = some (.map (some m1)) ∧ Y.cell? ⟨m1 + 1 + 1 + 1, 0, none⟩ = some (.map (some (m1 + 1))) ∧ MapI Y m1 (lst i) ∧ MapI Y (m1 + 1) []) _ ⟨HF1.out.out, d0, d1, HM1.out, HM2.out⟩
    (fun i Y Z f h => ⟨h.1.trans (f.out.mono h.1.size), f.cell h.2.1, f.cell h.2.2.1, h.2.2.2.1.below f.out, h.2.2.2.2.below f.out⟩) (fun i Y h => A0 _ h.1)
    (fun Y h => (HC.out 1 _ _ br _ _ Y _ h.2.1 h.2.2.1 h.2.2.2.1 h.2.2.2.2 (by omega) (by omega)).mono (fun e Z hz => ⟨hz.1, lists_keep hwm h hz.2.1 hz.2.2⟩))
    (fun Y h => (HC.out 2 _ _ br _ _ Y _ h.2.1 h.2.2.1 h.2.2.2.1 h.2.2.2.2 (by omega) (by omega)).mono (fun e Z hz => ⟨hz.1, lists_keep hwm h hz.2.1 hz.2.2⟩))).mono ?_
  rintro e w1 ⟨rfl, hf⟩
  have HZ := Lib.hid hf.1
  clear hf
  go_wp2
  refine wp_loop_rounds 1 ?_
  rw [rounds_succ]
  go_wp2
  go_ret
  exact ⟨_, _, rfl, HZ.out⟩
end Go.Proofs.YtkdmjpakpmnhgaaGreatDoor
