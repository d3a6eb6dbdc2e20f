/- audit.capacity, Check, Clean of the views of awake. -/
import Derived.Test.YtllipidegjpidaaGreatDoorJF
import Derived.Test.YtllipidegjpidaaGreatDoorJG0
import Derived.Test.YtllipidegjpidaaGreatDoorAuN
import Derived.Deep.RegionHeld3
namespace Go.Proofs.YtllipidegjpidaaGreatDoor
set_option linter.all false
open Go.RowKit
set_option maxHeartbeats 1000000 in
set_option maxRecDepth 100000 in
theorem fitsOne (x y : Int) (b1 o1 c1 b2 o2 c2 : Nat) (w : World) (h1 : w.cell? ⟨b1, o1, none⟩ = some (.int .i64 x)) (h2 : w.cell? ⟨b2, o2, none⟩ = some (.int .i64 y)) :
    Calls Tryz.prog 110 #[.slice (some ⟨b1, o1, none⟩) 1 c1, .slice (some ⟨b2, o2, none⟩) 1 c2] w fun e w' => e = .returned (.bool (decide (x ≤ y))) ∧ Below w.heap.size w w' := by
  have HB := Lib.hid (both1_any x y b1 o1 c1 b2 o2 c2 w h1 h2)
  clear h1 h2
  go_enter Tryz.func110, Tryz.ntmps110
  go_wp2_with fail
  refine HB.out.mono ?_
  rintro e w1 ⟨⟨v, rfl⟩, hb⟩
  go_wp2
  go_ret
  exact ⟨rfl, hb⟩
/-- The pods of awake, as a list. -/
def ps1 : List PodS := [⟨1, 0, false, 0, [3], 0, 1, -1, -1⟩]
theorem AwV.pods {w : World} {bn bp bc br ba : Nat} (h : AwV w bn bp bc br ba) : AtPods w (.slice (some ⟨bp, 0, none⟩) 1 1) ps1 := by
  refine ⟨[⟨1, 0, false, 0, some ⟨br, 0, none⟩, 1, 1, 0, 1, -1, -1⟩], ⟨_, _, rfl, .inr ⟨bp, 0, rfl, cell_lt h.p0, fun j x hx i u hu => ?_⟩⟩, rfl, fun j x p hx hp => ?_⟩
  · match j, hx with
    | 0, hx =>
      cases hx
      match i, hu with
      | 0, hu => cases hu; exact h.p0
      | 1, hu => cases hu; exact h.p1
      | 2, hu => cases hu; exact h.p2
      | 3, hu => cases hu; exact h.p3
      | 4, hu => cases hu; exact h.p4
      | 5, hu => cases hu; exact h.p5
      | 6, hu => cases hu; exact h.p6
      | 7, hu => cases hu; exact h.p7
      | 8, hu => cases hu; exact h.p8
      | _ + 9, hu => cases hu
    | _ + 1, hx => cases hx
  · have hr : IntsAt w (.slice (some ⟨br, 0, none⟩) 1 1) [3] := ⟨_, _, rfl, .inr ⟨br, 0, rfl, cell_lt h.r0, fun j hj => by
      match j, hj with
      | 0, _ => exact h.r0⟩⟩
    match j, hx, hp with
    | 0, hx, hp => cases hx; cases hp; exact ⟨rfl, rfl, rfl, rfl, rfl, rfl, rfl, rfl, rfl, hr⟩
theorem ps1_mild : MildPods ps1 := by
  intro p hp i
  have hr : p.req = [3] := by
    unfold ps1 at hp
    rcases List.mem_cons.1 hp with rfl | hp
    · rfl
    · cases hp
  rw [hr]
  match i with
  | 0 => decide
  | _ + 1 => simp
/-- Usage of the node of awake. -/
theorem usageAw (w : World) (bn bp bc br ba : Nat) (h : AwV w bn bp bc br ba) : Calls Tryz.prog 112 #[awView bn bp ba, .int .i64 7] w fun e w' => ∃ b o c, e = .returned (.slice (some ⟨b, o, none⟩) 1 c) ∧ w'.cell? ⟨b, o, none⟩ = some (.int .i64 0) ∧ b < w'.heap.size ∧ Below w.heap.size w w' := by
  refine (usage_any 1 7 _ _ _ _ _ _ _ _ _ _ ps1 w (by omega) (by decide) ps1_mild h.pods).mono ?_
  rintro e w' ⟨a, cp, rfl, hi, hb⟩
  have hu : usage 7 1 ps1 = [0] := by decide
  rw [hu] at hi
  obtain ⟨a', c', he, h0 | ⟨b, off, rfl, h2, h3, h4⟩⟩ := hi
  · cases h0
  · cases he
    exact ⟨b, off, cp, rfl, h4 0 (by decide), h3, hb⟩
set_option maxHeartbeats 1000000 in
set_option maxRecDepth 100000 in
theorem capacity0 (ba : Nat) (w : World) : Calls Tryz.prog 78 #[noView ba] w fun e w' => ∃ a c, e = .returned (.slice a 0 c) ∧ Below w.heap.size w w' := by
  go_enter Tryz.func78, Tryz.ntmps78
  go_wp2
  refine wp_loop_rounds 1 ?_
  rw [rounds_succ]
  go_wp2
  go_ret
  exact ⟨_, _, rfl, ((From.refl w).alloc _).out⟩
set_option maxHeartbeats 1000000 in
set_option maxRecDepth 100000 in
theorem capacity1 (w : World) (bn bp bc br ba : Nat) (h : AwV w bn bp bc br ba) : Calls Tryz.prog 78 #[awView bn bp ba] w fun e w' => ∃ a c, e = .returned (.slice a 0 c) ∧ Below w.heap.size w w' := by
  have HA := Lib.hid h
  clear h
  go_enter Tryz.func78, Tryz.ntmps78
  go_wp2
  refine wp_loop_rounds 2 ?_
  refine rounds_named fun W1 hW1 => ?_
  have F1 : From w W1 := by rw [hW1]; exact (From.refl w).alloc _
  have b0 : W1.cell? ⟨w.heap.size, 0, none⟩ = some (.int .i64 1) := by rw [hW1]; go_simp
  have b1 : W1.cell? ⟨w.heap.size, 1, none⟩ = some (.slice (some ⟨bn, 0, none⟩) 1 1) := by rw [hW1]; go_simp
  have b2 : W1.cell? ⟨w.heap.size, 2, none⟩ = some (.slice (some ⟨bp, 0, none⟩) 1 1) := by rw [hW1]; go_simp
  have b3 : W1.cell? ⟨w.heap.size, 3, none⟩ = some (.slice (some ⟨ba, 0, none⟩) 1 1) := by rw [hW1]; go_simp
  have b4 : W1.cell? ⟨w.heap.size, 4, none⟩ = some (.slice none 0 0) := by rw [hW1]; go_simp
  have n0 := (HA.out.below F1.out).n0
  have n1 := (HA.out.below F1.out).n1
  have HF1 := Lib.hid F1
  have hwl := cell_lt b0
  clear hW1 F1
  rw [rounds_succ]
  go_wp2
  refine wp_named fun W2 hW2 => ?_
  have F2 : From W1 W2 := by rw [hW2]; exact (From.refl _).alloc _
  have d0 : W2.cell? ⟨W1.heap.size, 0, none⟩ = some (.int .i64 7) := by rw [hW2]; go_simp
  have d1 : W2.cell? ⟨W1.heap.size, 1, none⟩ = some (.slice (some ⟨bc, 0, none⟩) 1 1) := by rw [hW2]; go_simp
  have e0 := F2.cell b0
  have e1 := F2.cell b1
  have e2 := F2.cell b2
  have e3 := F2.cell b3
  have e4 := F2.cell b4
  have G2 := HF1.out.trans F2
  clear hW2 F2 n0 n1 b0 b1 b2 b3 b4 HF1
  have HK : Hid (∀ w', From W2 w' → (w'.cell? ⟨W1.heap.size, 0, none⟩ = some (.int .i64 7) ∧ w'.cell? ⟨W1.heap.size, 1, none⟩ = some (.slice (some ⟨bc, 0, none⟩) 1 1) ∧ w'.cell? ⟨w.heap.size, 0, none⟩ = some (.int .i64 1) ∧ w'.cell? ⟨w.heap.size, 1, none⟩ = some (.slice (some ⟨bn, 0, none⟩) 1 1) ∧ w'.cell? ⟨w.heap.size, 2, none⟩ = some (.slice (some ⟨bp, 0, none⟩) 1 1) ∧ w'.cell? ⟨w.heap.size, 3, none⟩ = some (.slice (some ⟨ba, 0, none⟩) 1 1) ∧ w'.cell? ⟨w.heap.size, 4, none⟩ = some (.slice none 0 0))) := fun w' hf => ⟨hf.cell d0, hf.cell d1, hf.cell e0, hf.cell e1, hf.cell e2, hf.cell e3, hf.cell e4⟩
  have HU : Hid (∀ w', From W2 w' → Calls Tryz.prog 112 #[awView bn bp ba, .int .i64 7] w' fun e w'' => ∃ b o c, e = .returned (.slice (some ⟨b, o, none⟩) 1 c) ∧ w''.cell? ⟨b, o, none⟩ = some (.int .i64 0) ∧ b < w''.heap.size ∧ Below w'.heap.size w' w'') := fun w' hf => usageAw w' bn bp bc br ba (HA.out.below (G2.trans hf).out)
  have HC : Hid (∀ w', From W2 w' → w'.cell? ⟨bc, 0, none⟩ = some (.int .i64 5)) := fun w' hf => (HA.out.below (G2.trans hf).out).k0
  have HT := Lib.hid fun b o c w' h1 h2 => fitsOne 0 5 b o c bc 0 1 w' h1 h2
  have HG := Lib.hid G2
  have hv0 : From W2 W2 := From.refl W2
  have hv1 : From W2 W2.drew := hv0.drew
  clear G2
  go_region_held3 (fun w' => (w'.cell? ⟨W1.heap.size, 0, none⟩ = some (.int .i64 7) ∧ w'.cell? ⟨W1.heap.size, 1, none⟩ = some (.slice (some ⟨bc, 0, none⟩) 1 1) ∧ w'.cell? ⟨w.heap.size, 0, none⟩ = some (.int .i64 1) ∧ w'.cell? ⟨w.heap.size, 1, none⟩ = some (.slice (some ⟨bn, 0, none⟩) 1 1) ∧ w'.cell? ⟨w.heap.size, 2, none⟩ = some (.slice (some ⟨bp, 0, none⟩) 1 1) ∧ w'.cell? ⟨w.heap.size, 3, none⟩ = some (.slice (some ⟨ba, 0, none⟩) 1 1) ∧ w'.cell? ⟨w.heap.size, 4, none⟩ = some (.slice none 0 0)))
    (first
      | (with_reducible exact HK.out _ hv3)
      | (with_reducible exact HK.out _ hv2)
      | (with_reducible exact HK.out _ hv1)
      | (with_reducible exact HK.out _ hv0)
      | fail)
    (first
      | (go_at_call 112; ((with_reducible refine (HU.out _ hv1).mono ?_)); rintro e v2 ⟨bu, ou, cu, rfl, hu6, -, hb⟩; have hv2 : From W2 v2 := hv1.step hb; clear hb)
      | (go_at_call 110; ((with_reducible refine (HT.out _ _ _ _ hu6 (HC.out _ hv2)).mono ?_)); rintro e v3 ⟨rfl, hb⟩; have hv3 : From W2 v3 := hv2.step hb; clear hb)
      | fail)
  obtain ⟨x0, x1, x2, x3, x4, x5, x6⟩ := HK.out _ hv3
  have HV := Lib.hid ((HG.out.trans hv3))
  clear hu6 hv0 hv1 hv2 hv3 HT HC HU HK x2 x3 x4 x5 x6 d0 d1 e0 e1 e2 e3 e4
  go_wp2
  rw [rounds_succ]
  go_wp2
  go_ret
  exact ⟨_, _, rfl, HV.out.out⟩
/-- Check and Clean of the views of awake. -/
theorem check0 (ba : Nat) (w : World) (h : w.cell? ⟨ba, 0, none⟩ = some (.int .i64 1)) : Calls Tryz.prog 28 #[noView ba] w fun e w' => ∃ a c, e = .returned (.slice a 1 c) ∧ Below w.heap.size w w' :=
  check_last 1 none none (some ⟨ba, 0, none⟩) none 0 0 1 0 0 0 1 0 w (fun w' _ => twice0 ba w') (fun w' _ => capacity0 ba w') (fun w' _ => phases0 ba w') (fun w' _ => places0 ba w') (fun w' f => lists0 w' ba (f.cell h))
theorem check1 (w : World) (bn bp bc br ba : Nat) (s : ByteArray) (hs : s.toList.isEmpty = false) (h : AwV w bn bp bc br ba) (hn : w.cell? ⟨2, 1, none⟩ = some (.string s)) :
    Calls Tryz.prog 28 #[awView bn bp ba] w fun e w' => e = .returned (.slice none 0 0) ∧ Below w.heap.size w w' :=
  check_none 1 (some ⟨bn, 0, none⟩) (some ⟨bp, 0, none⟩) (some ⟨ba, 0, none⟩) none 1 1 1 0 1 1 1 0 w (fun w' f => twice1 w' bn bp bc br ba (h.below f.out)) (fun w' f => capacity1 w' bn bp bc br ba (h.below f.out))
    (fun w' f => phases1 w' bn bp bc br ba s hs (h.below f.out) (f.cell hn)) (fun w' f => places1 w' bn bp bc br ba (h.below f.out)) (fun w' f => lists1 w' bn bp bc br ba (h.below f.out))
set_option maxRecDepth 100000 in
theorem clean0 (ba : Nat) (w : World) (h : w.cell? ⟨ba, 0, none⟩ = some (.int .i64 1)) : Calls Tryz.prog 17 #[noView ba] w fun e w' => e = .returned (.bool false) ∧ Below w.heap.size w w' := by
  have HC : Hid (∀ X, From w X → Calls Tryz.prog 28 #[noView ba] X fun e w' => ∃ a c, e = .returned (.slice a 1 c) ∧ Below X.heap.size X w') := fun X f => check0 ba X (f.cell h)
  clear h
  go_enter Tryz.func17, Tryz.ntmps17
  go_wp2_with fail
  refine calls_named fun X hX => ?_
  have F1 : From w X := by rw [hX]; exact (From.refl w).alloc _
  clear hX
  refine (HC.out _ F1).mono ?_
  rintro e w1 ⟨a, c, rfl, hb⟩
  go_wp2
  go_ret
  exact ⟨rfl, (F1.step hb).out⟩
set_option maxRecDepth 100000 in
theorem clean1 (w : World) (bn bp bc br ba : Nat) (s : ByteArray) (hs : s.toList.isEmpty = false) (h : AwV w bn bp bc br ba) (hn : w.cell? ⟨2, 1, none⟩ = some (.string s)) :
    Calls Tryz.prog 17 #[awView bn bp ba] w fun e w' => e = .returned (.bool true) ∧ Below w.heap.size w w' := by
  have HC : Hid (∀ X, From w X → Calls Tryz.prog 28 #[awView bn bp ba] X fun e w' => e = .returned (.slice none 0 0) ∧ Below X.heap.size X w') := fun X f => check1 X bn bp bc br ba s hs (h.below f.out) (f.cell hn)
  clear h hn
  go_enter Tryz.func17, Tryz.ntmps17
  go_wp2_with fail
  refine calls_named fun X hX => ?_
  have F1 : From w X := by rw [hX]; exact (From.refl w).alloc _
  clear hX
  refine (HC.out _ F1).mono ?_
  rintro e w1 ⟨rfl, hb⟩
  go_wp2
  go_ret
  exact ⟨rfl, (F1.step hb).out⟩
end Go.Proofs.YtllipidegjpidaaGreatDoor
