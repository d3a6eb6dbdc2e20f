/- vec.Fits of single elements; audit.capacity of the views of awake. -/
import Derived.Test.YtkdmjpakpmnhgaaGreatDoorAuV
import Derived.Test.YtkdmjpakpmnhgaaGreatDoorAuW
import Derived.Deep.RegionHeld3
namespace Go.Proofs.YtkdmjpakpmnhgaaGreatDoor
set_option linter.all false
open Go.RowKit

theorem app_one (W : World) (o : Obj) (a : Value) (cs : Array Value) (t : Nat) : ((W.alloc o).alloc (Obj.cells (#[a] ++ cs) t)).drew.cell? ⟨W.heap.size + 1, 0, none⟩ = some a := by
  go_simp; simp [Array.getElem?_append]
set_option maxHeartbeats 1000000 in
set_option maxRecDepth 100000 in
theorem fitsOne (x y : Int) (b1 o1 c1 b2 o2 c2 : Nat) (w : World) (h1 : w.cell? ⟨b1, o1, none⟩ = some (.int .i64 x)) (h2 : w.cell? ⟨b2, o2, none⟩ = some (.int .i64 y)) :
    Calls Tryz.prog 45 #[.slice (some ⟨b1, o1, none⟩) 1 c1, .slice (some ⟨b2, o2, none⟩) 1 c2] w fun e w' => e = .returned (.bool (decide (x ≤ y))) ∧ Below w.heap.size w w' := by
  have HB := Lib.hid (both1_any x y b1 o1 c1 b2 o2 c2 w h1 h2)
  clear h1 h2
  go_enter Tryz.func45, Tryz.ntmps45
  go_wp2_with fail
  refine HB.out.mono ?_
  rintro e w1 ⟨⟨v, rfl⟩, hb⟩
  go_wp2
  go_ret
  exact ⟨rfl, hb⟩
/-- The pods of awake, as a list. -/
def ps1 : List PodS := [⟨1, 0, false, 0, [3], 0, 3, 7, -1⟩, ⟨2, 0, false, 0, [3], 0, 3, 7, -1⟩]
theorem AwV.pods {w : World} {bn bp bc br : Nat} (h : AwV w bn bp bc br) : AtPods w (.slice (some ⟨bp, 0, none⟩) 2 2) ps1 := by
  refine ⟨[⟨1, 0, false, 0, some ⟨br, 0, none⟩, 1, 1, 0, 3, 7, -1⟩, ⟨2, 0, false, 0, some ⟨br, 0, none⟩, 1, 1, 0, 3, 7, -1⟩], ⟨_, _, rfl, .inr ⟨bp, 0, rfl, cell_lt h.p0, fun j x hx i u hu => ?_⟩⟩, rfl, fun j x p hx hp => ?_⟩
  · match j, hx with
    | 0, hx =>
      cases hx
      match i, hu with
      | 0, hu => cases hu; exact h.p0
      | 1, hu => cases hu; exact h.p1
      | 2, hu => cases hu; exact h.p2
      | 3, hu => cases hu; exact h.p3
      | 4, hu => cases hu; exact h.p4
      | 5, hu => cases hu; exact h.p5
      | 6, hu => cases hu; exact h.p6
      | 7, hu => cases hu; exact h.p7
      | 8, hu => cases hu; exact h.p8
      | _ + 9, hu => cases hu
    | 1, hx =>
      cases hx
      match i, hu with
      | 0, hu => cases hu; exact h.q0
      | 1, hu => cases hu; exact h.q1
      | 2, hu => cases hu; exact h.q2
      | 3, hu => cases hu; exact h.q3
      | 4, hu => cases hu; exact h.q4
      | 5, hu => cases hu; exact h.q5
      | 6, hu => cases hu; exact h.q6
      | 7, hu => cases hu; exact h.q7
      | 8, hu => cases hu; exact h.q8
      | _ + 9, hu => cases hu
    | _ + 2, hx => cases hx
  · have hr : IntsAt w (.slice (some ⟨br, 0, none⟩) 1 1) [3] := ⟨_, _, rfl, .inr ⟨br, 0, rfl, cell_lt h.r0, fun j hj => by
      match j, hj with
      | 0, _ => exact h.r0⟩⟩
    match j, hx, hp with
    | 0, hx, hp => cases hx; cases hp; exact ⟨rfl, rfl, rfl, rfl, rfl, rfl, rfl, rfl, rfl, hr⟩
    | 1, hx, hp => cases hx; cases hp; exact ⟨rfl, rfl, rfl, rfl, rfl, rfl, rfl, rfl, rfl, hr⟩
theorem ps1_mild : MildPods ps1 := by
  intro p hp i
  have hr : p.req = [3] := by
    unfold ps1 at hp
    rcases List.mem_cons.1 hp with rfl | hp
    · rfl
    · rcases List.mem_cons.1 hp with rfl | hp
      · rfl
      · cases hp
  rw [hr]
  match i with
  | 0 => decide
  | _ + 1 => simp
/-- Usage of the node of awake. -/
theorem usageAw (w : World) (bn bp bc br : Nat) (h : AwV w bn bp bc br) : Calls Tryz.prog 6 #[awView bn bp, .int .i64 7] w fun e w' => ∃ b o c, e = .returned (.slice (some ⟨b, o, none⟩) 1 c) ∧ w'.cell? ⟨b, o, none⟩ = some (.int .i64 6) ∧ b < w'.heap.size ∧ IntsAt w' (.slice (some ⟨b, o, none⟩) 1 c) [6] ∧ Below w.heap.size w w' := by
  refine (usage_any 1 7 _ _ _ _ _ _ _ _ _ _ ps1 w (by omega) (by decide) ps1_mild h.pods).mono ?_
  rintro e w' ⟨a, cp, rfl, hi, hb⟩
  have hu : usage 7 1 ps1 = [6] := by decide
  rw [hu] at hi
  have hat := hi.at_
  obtain ⟨a', c', he, h0 | ⟨b, off, rfl, h2, h3, h4⟩⟩ := hi
  · cases h0
  · cases he
    exact ⟨b, off, cp, rfl, h4 0 (by decide), h3, hat, hb⟩
set_option maxHeartbeats 1000000 in
set_option maxRecDepth 100000 in
theorem capacity0 (w : World) : Calls Tryz.prog 34 #[noView] w fun e w' => ∃ a c, e = .returned (.slice a 0 c) ∧ Below w.heap.size w w' := by
  go_enter Tryz.func34, Tryz.ntmps34
  go_wp2
  refine wp_loop_rounds 1 ?_
  rw [rounds_succ]
  go_wp2
  go_ret
  exact ⟨_, _, rfl, ((From.refl w).alloc _).out⟩
set_option maxHeartbeats 1000000 in
set_option maxRecDepth 100000 in
theorem capacity1 (w : World) (bn bp bc br : Nat) (h : AwV w bn bp bc br) : Calls Tryz.prog 34 #[awView bn bp] w fun e w' => ∃ b c, e = .returned (.slice (some ⟨b, 0, none⟩) 1 c) ∧ w'.cell? ⟨b, 0, none⟩ = some (.int .i64 7) ∧ Below w.heap.size w w' := by
  have HA := Lib.hid h
  clear h
  go_enter Tryz.func34, Tryz.ntmps34
  go_wp2
  refine wp_loop_rounds 2 ?_
  refine rounds_named fun W1 hW1 => ?_
  have F1 : From w W1 := by rw [hW1]; exact (From.refl w).alloc _
  have b0 : W1.cell? ⟨w.heap.size, 0, none⟩ = some (.int .i64 1) := by rw [hW1]; go_simp
  have b1 : W1.cell? ⟨w.heap.size, 1, none⟩ = some (.slice (some ⟨bn, 0, none⟩) 1 1) := by rw [hW1]; go_simp
  have b2 : W1.cell? ⟨w.heap.size, 2, none⟩ = some (.slice (some ⟨bp, 0, none⟩) 2 2) := by rw [hW1]; go_simp
  have b3 : W1.cell? ⟨w.heap.size, 3, none⟩ = some (.slice none 0 0) := by rw [hW1]; go_simp
  have b4 : W1.cell? ⟨w.heap.size, 4, none⟩ = some (.slice none 0 0) := by rw [hW1]; go_simp
  have n0 := (HA.out.below F1.out).n0
  have n1 := (HA.out.below F1.out).n1
  have HF1 := Lib.hid F1
  have hwl := cell_lt b0
  clear hW1 F1
  rw [rounds_succ]
  go_wp2
  refine wp_named fun W2 hW2 => ?_
  have F2 : From W1 W2 := by rw [hW2]; exact (From.refl _).alloc _
  have d0 : W2.cell? ⟨W1.heap.size, 0, none⟩ = some (.int .i64 7) := by rw [hW2]; go_simp
  have d1 : W2.cell? ⟨W1.heap.size, 1, none⟩ = some (.slice (some ⟨bc, 0, none⟩) 1 1) := by rw [hW2]; go_simp
  have e0 := F2.cell b0
  have e1 := F2.cell b1
  have e2 := F2.cell b2
  have e3 := F2.cell b3
  have e4 := F2.cell b4
  have G2 := HF1.out.trans F2
  clear hW2 F2 n0 n1 b0 b1 b2 b3 b4 HF1
  have HK : Hid (∀ w', From W2 w' → (w'.cell? ⟨W1.heap.size, 0, none⟩ = some (.int .i64 7) ∧ w'.cell? ⟨W1.heap.size, 1, none⟩ = some (.slice (some ⟨bc, 0, none⟩) 1 1) ∧ w'.cell? ⟨w.heap.size, 0, none⟩ = some (.int .i64 1) ∧ w'.cell? ⟨w.heap.size, 1, none⟩ = some (.slice (some ⟨bn, 0, none⟩) 1 1) ∧ w'.cell? ⟨w.heap.size, 2, none⟩ = some (.slice (some ⟨bp, 0, none⟩) 2 2) ∧ w'.cell? ⟨w.heap.size, 3, none⟩ = some (.slice none 0 0) ∧ w'.cell? ⟨w.heap.size, 4, none⟩ = some (.slice none 0 0))) := fun w' hf => ⟨hf.cell d0, hf.cell d1, hf.cell e0, hf.cell e1, hf.cell e2, hf.cell e3, hf.cell e4⟩
  have HU : Hid (∀ w', From W2 w' → Calls Tryz.prog 6 #[awView bn bp, .int .i64 7] w' fun e w'' => ∃ b o c, e = .returned (.slice (some ⟨b, o, none⟩) 1 c) ∧ w''.cell? ⟨b, o, none⟩ = some (.int .i64 6) ∧ b < w''.heap.size ∧ IntsAt w'' (.slice (some ⟨b, o, none⟩) 1 c) [6] ∧ Below w'.heap.size w' w'') := fun w' hf => usageAw w' bn bp bc br (HA.out.below (G2.trans hf).out)
  have HC : Hid (∀ w', From W2 w' → w'.cell? ⟨bc, 0, none⟩ = some (.int .i64 5)) := fun w' hf => (HA.out.below (G2.trans hf).out).k0
  have HT := Lib.hid fun b o c w' h1 h2 => fitsOne 6 5 b o c bc 0 1 w' h1 h2
  have HG := Lib.hid G2
  have hv0 : From W2 W2 := From.refl W2
  have hv1 : From W2 W2.drew := hv0.drew
  clear G2
  go_region_held3 (fun w' => (w'.cell? ⟨W1.heap.size, 0, none⟩ = some (.int .i64 7) ∧ w'.cell? ⟨W1.heap.size, 1, none⟩ = some (.slice (some ⟨bc, 0, none⟩) 1 1) ∧ w'.cell? ⟨w.heap.size, 0, none⟩ = some (.int .i64 1) ∧ w'.cell? ⟨w.heap.size, 1, none⟩ = some (.slice (some ⟨bn, 0, none⟩) 1 1) ∧ w'.cell? ⟨w.heap.size, 2, none⟩ = some (.slice (some ⟨bp, 0, none⟩) 2 2) ∧ w'.cell? ⟨w.heap.size, 3, none⟩ = some (.slice none 0 0) ∧ w'.cell? ⟨w.heap.size, 4, none⟩ = some (.slice none 0 0)))
    (first
      | (with_reducible exact HK.out _ hv3)
      | (with_reducible exact HK.out _ hv2)
      | (with_reducible exact HK.out _ hv1)
      | (with_reducible exact HK.out _ hv0)
      | fail)
    (first
      | (go_at_call 6; ((with_reducible refine (HU.out _ hv1).mono ?_)); rintro e v2 ⟨bu, ou, cu, rfl, hu6, -, -, hb⟩; have hv2 : From W2 v2 := hv1.step hb; clear hb)
      | (go_at_call 45; ((with_reducible refine (HT.out _ _ _ _ hu6 (HC.out _ hv2)).mono ?_)); rintro e v3 ⟨rfl, hb⟩; have hv3 : From W2 v3 := hv2.step hb; clear hb)
      | fail)
  obtain ⟨x0, x1, x2, x3, x4, x5, x6⟩ := HK.out _ hv3
  have HV := Lib.hid ((HG.out.trans hv3))
  clear hu6 hv0 hv1 hv2 hv3 HT HC HU HK x2 x3 x4 x5 x6 d0 d1 e0 e1 e2 e3 e4
  go_wp2
  generalize (Question.appendCap 1 0 3).cut (v3.tape v3.drawn (Question.appendCap 1 0 3)) = cq
  generalize hZ : ((v3.alloc (Obj.cells #[.int .i64 7] 3)).alloc (Obj.cells (#[.int .i64 7] ++ Builtin.zeroCells #[.int .i64 0] (cq - 1)) 3)).drew = Z
  have hfz : From v3 Z := by rw [← hZ]; exact (((From.refl _).alloc _).alloc _).drew
  have q0 : Z.cell? ⟨v3.heap.size + 1, 0, none⟩ = some (.int .i64 7) := by rw [← hZ]; exact app_one _ _ _ _ _
  clear hZ
  rw [rounds_succ]
  go_wp2
  go_ret
  exact ⟨_, _, rfl, q0, (HV.out.trans hfz).out⟩
/-- Check and Clean of the views of awake. -/
theorem check0 (w : World) : Calls Tryz.prog 9 #[noView] w fun e w' => e = .returned (.slice none 0 0) ∧ Below w.heap.size w w' :=
  check_none 0 none none none none 0 0 0 0 0 0 0 0 w (fun w' _ => twice0 w') (fun w' _ => capacity0 w') (fun w' _ => phases0 w') (fun w' _ => places0 w') (fun w' _ => lists0 w')
theorem check1 (w : World) (bn bp bc br : Nat) (s : ByteArray) (hs : s.toList.isEmpty = false) (h : AwV w bn bp bc br) (hn : w.cell? ⟨1, 3, none⟩ = some (.string s)) :
    Calls Tryz.prog 9 #[awView bn bp] w fun e w' => ∃ b c, e = .returned (.slice (some ⟨b, 0, none⟩) 1 c) ∧ w'.cell? ⟨b, 0, none⟩ = some (.int .i64 1) ∧ w'.cell? ⟨b, 1, none⟩ = some (.int .i64 7) ∧ Below w.heap.size w w' :=
  check_one 1 _ _ none none 1 2 0 0 1 2 0 0 w (fun w' f => twice1 w' bn bp bc br (h.below f.out)) (fun w' f => capacity1 w' bn bp bc br (h.below f.out))
    (fun w' f => phases1 w' bn bp bc br s hs (h.below f.out) (f.cell hn)) (fun w' f => places1 w' bn bp bc br (h.below f.out)) (fun w' f => lists1 w' bn bp bc br (h.below f.out))
set_option maxRecDepth 100000 in
theorem clean0 (w : World) : Calls Tryz.prog 10 #[noView] w fun e w' => e = .returned (.bool true) ∧ Below w.heap.size w w' := by
  have HC := Lib.hid check0
  go_enter Tryz.func10, Tryz.ntmps10
  go_wp2_with fail
  refine calls_named fun X hX => ?_
  have F1 : From w X := by rw [hX]; exact (From.refl w).alloc _
  clear hX
  refine (HC.out _).mono ?_
  rintro e w1 ⟨rfl, hb⟩
  go_wp2
  go_ret
  exact ⟨rfl, (F1.step hb).out⟩
set_option maxRecDepth 100000 in
theorem clean1 (w : World) (bn bp bc br : Nat) (s : ByteArray) (hs : s.toList.isEmpty = false) (h : AwV w bn bp bc br) (hn : w.cell? ⟨1, 3, none⟩ = some (.string s)) :
    Calls Tryz.prog 10 #[awView bn bp] w fun e w' => e = .returned (.bool false) ∧ Below w.heap.size w w' := by
  have HC : Hid (∀ X, From w X → Calls Tryz.prog 9 #[awView bn bp] X fun e w' => ∃ b c, e = .returned (.slice (some ⟨b, 0, none⟩) 1 c) ∧ w'.cell? ⟨b, 0, none⟩ = some (.int .i64 1) ∧ w'.cell? ⟨b, 1, none⟩ = some (.int .i64 7) ∧ Below X.heap.size X w') := fun X f => check1 X bn bp bc br s hs (h.below f.out) (f.cell hn)
  clear h hn
  go_enter Tryz.func10, Tryz.ntmps10
  go_wp2_with fail
  refine calls_named fun X hX => ?_
  have F1 : From w X := by rw [hX]; exact (From.refl w).alloc _
  clear hX
  refine (HC.out _ F1).mono ?_
  rintro e w1 ⟨b, c, rfl, -, -, hb⟩
  go_wp2
  go_ret
  exact ⟨rfl, (F1.step hb).out⟩
end Go.Proofs.YtkdmjpakpmnhgaaGreatDoor
