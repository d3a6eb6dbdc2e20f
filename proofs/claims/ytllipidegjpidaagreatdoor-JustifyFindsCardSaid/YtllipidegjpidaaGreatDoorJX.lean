/- load.total, load.Fits. -/
import Derived.Test.YtllipidegjpidaaGreatDoorJW
namespace Go.Proofs.YtllipidegjpidaaGreatDoor
set_option linter.all false
open Go.RowKit

set_option maxHeartbeats 4000000 in
set_option maxRecDepth 100000 in
theorem total_any (b bp op cp : Nat) (w : World) (h : ClF w b) (hp : w.cell? ⟨bp, op, none⟩ = some (.int .i64 3)) : Calls Tryz.prog 109 #[.pointer (some ⟨b + 6, 0, none⟩), pod1V bp op cp, .int .i64 7, .slice none 0 0] w fun e w' => ∃ g o c g' o' c', e = .returned (.tuple #[.slice (some ⟨g, o, none⟩) 1 c, .slice (some ⟨g', o', none⟩) 1 c', .bool true]) ∧ w'.cell? ⟨g, o, none⟩ = some (.int .i64 3) ∧ w'.cell? ⟨g', o', none⟩ = some (.int .i64 5) ∧ From w w' := by
  have HD : Hid (∀ X, From w X → Calls Tryz.prog 35 #[.pointer (some ⟨b + 6, 0, none⟩)] X fun e w' => e = .returned (.int .i64 1) ∧ From X w') := fun X f => by
    obtain ⟨br, orr, cr, bi, ci, b1, o1, c1, b2, o2, c2, hcl, -⟩ := h
    exact cdims_any b X (hcl.below f.out)
  have HN : Hid (∀ X, From w X → Calls Tryz.prog 142 #[.pointer (some ⟨b + 6, 0, none⟩), .int .i64 7] X fun e w' => ∃ b' o' c', e = .returned (.tuple #[nodeVal b' o' c', .bool true]) ∧ w'.cell? ⟨b', o', none⟩ = some (.int .i64 5) ∧ X.heap.size ≤ b' ∧ Below X.heap.size X w') := fun X f => cnode_any b X (h.below f.out)
  have HL : Hid (∀ X, From w X → Calls Tryz.prog 144 #[.pointer (some ⟨b + 6, 0, none⟩), pod1V bp op cp, .int .i64 7, .slice none 0 0] X fun e w' => ∃ g o c, e = .returned (.slice (some ⟨g, o, none⟩) 1 c) ∧ w'.cell? ⟨g, o, none⟩ = some (.int .i64 0) ∧ X.heap.size ≤ g ∧ Below X.heap.size X w') := fun X f => lof_any b bp op cp X (h.below f.out)
  have HW : Hid (∀ X, From w X → Calls Tryz.prog 34 #[.slice (some ⟨bp, op, none⟩) 1 cp, .int .i64 1] X fun e w' => e = .returned (.int .i64 (-1)) ∧ X = w') := fun X f => wrong1_any 3 bp op cp X (by omega) (by omega) (f.cell hp)
  have HA := Lib.hid fun w g off cap b o c b' o' c' h0 h1 hx hy => vadd2c 0 3 w g off cap b o c b' o' c' h0 h1 hx hy (by omega) (by omega) (by omega) (by omega)
  have HPC := Lib.hid hp
  clear h hp
  obtain ⟨W0, hW0⟩ : ∃ W0, W0 = w.alloc (.cells #[.int .i64 1, .int .i64 0, .bool false, .int .i64 0, .slice (some ⟨bp, op, none⟩) 1 cp, .int .i64 0, .int .i64 1, .int .i64 (-1), .int .i64 (-1)] 40) := ⟨_, rfl⟩
  have F0 : From w W0 := by rw [hW0]; exact (From.refl w).alloc _
  have p0 : W0.cell? ⟨w.heap.size, 0, none⟩ = some (.int .i64 1) := by rw [hW0]; go_simp
  have p1 : W0.cell? ⟨w.heap.size, 1, none⟩ = some (.int .i64 0) := by rw [hW0]; go_simp
  have p2 : W0.cell? ⟨w.heap.size, 2, none⟩ = some (.bool false) := by rw [hW0]; go_simp
  have p3 : W0.cell? ⟨w.heap.size, 3, none⟩ = some (.int .i64 0) := by rw [hW0]; go_simp
  have p4 : W0.cell? ⟨w.heap.size, 4, none⟩ = some (.slice (some ⟨bp, op, none⟩) 1 cp) := by rw [hW0]; go_simp
  have p5 : W0.cell? ⟨w.heap.size, 5, none⟩ = some (.int .i64 0) := by rw [hW0]; go_simp
  have p6 : W0.cell? ⟨w.heap.size, 6, none⟩ = some (.int .i64 1) := by rw [hW0]; go_simp
  have p7 : W0.cell? ⟨w.heap.size, 7, none⟩ = some (.int .i64 (-1)) := by rw [hW0]; go_simp
  have p8 : W0.cell? ⟨w.heap.size, 8, none⟩ = some (.int .i64 (-1)) := by rw [hW0]; go_simp
  have hwl := cell_lt p0
  go_enter Tryz.func109, Tryz.ntmps109
  go_wp2_with fail
  rw [← hW0]
  clear hW0
  refine (HN.out _ F0).mono ?_
  rintro e W1 ⟨bn, on, cn, rfl, hc5, hl5, hb⟩
  obtain ⟨W2, hW2⟩ : ∃ W2, W2 = W1.alloc (.cells #[.int .i64 7, .slice (some ⟨bn, on, none⟩) 1 cn] 37) := ⟨_, rfl⟩
  have f2 : From W0 W2 := by rw [hW2]; exact (From.mk hb).alloc _
  have HN5 : Hid (W2.cell? ⟨bn, on, none⟩ = some (.int .i64 5)) := by rw [hW2]; exact ((From.refl W1).alloc _).cell hc5
  have n0 : W2.cell? ⟨W1.heap.size, 0, none⟩ = some (.int .i64 7) := by rw [hW2]; go_simp
  have n1 : W2.cell? ⟨W1.heap.size, 1, none⟩ = some (.slice (some ⟨bn, on, none⟩) 1 cn) := by rw [hW2]; go_simp
  have p0 := f2.cell p0
  have p1 := f2.cell p1
  have p2 := f2.cell p2
  have p3 := f2.cell p3
  have p4 := f2.cell p4
  have p5 := f2.cell p5
  have p6 := f2.cell p6
  have p7 := f2.cell p7
  have p8 := f2.cell p8
  have HF2 := Lib.hid (F0.trans f2)
  have HPX : Hid (∀ X, From W2 X → (X.cell? ⟨w.heap.size, 0, none⟩ = some (.int .i64 1) ∧ X.cell? ⟨w.heap.size, 1, none⟩ = some (.int .i64 0) ∧ X.cell? ⟨w.heap.size, 2, none⟩ = some (.bool false) ∧ X.cell? ⟨w.heap.size, 3, none⟩ = some (.int .i64 0) ∧ X.cell? ⟨w.heap.size, 4, none⟩ = some (.slice (some ⟨bp, op, none⟩) 1 cp) ∧ X.cell? ⟨w.heap.size, 5, none⟩ = some (.int .i64 0) ∧ X.cell? ⟨w.heap.size, 6, none⟩ = some (.int .i64 1) ∧ X.cell? ⟨w.heap.size, 7, none⟩ = some (.int .i64 (-1)) ∧ X.cell? ⟨w.heap.size, 8, none⟩ = some (.int .i64 (-1)))) := fun X f => ⟨f.cell p0, f.cell p1, f.cell p2, f.cell p3, f.cell p4, f.cell p5, f.cell p6, f.cell p7, f.cell p8⟩
  have HNX : Hid (∀ X, From W2 X → (X.cell? ⟨W1.heap.size, 0, none⟩ = some (.int .i64 7) ∧ X.cell? ⟨W1.heap.size, 1, none⟩ = some (.slice (some ⟨bn, on, none⟩) 1 cn))) := fun X f => ⟨f.cell n0, f.cell n1⟩
  clear f2 F0 hb hc5
  go_wp2
  rw [← hW2]
  clear hW2
  have hv0 : From W2 W2 := From.refl W2
  have hv1 : From W2 W2.drew := hv0.drew
  go_region_held3 (fun w' => (w'.cell? ⟨w.heap.size, 0, none⟩ = some (.int .i64 1) ∧ w'.cell? ⟨w.heap.size, 1, none⟩ = some (.int .i64 0) ∧ w'.cell? ⟨w.heap.size, 2, none⟩ = some (.bool false) ∧ w'.cell? ⟨w.heap.size, 3, none⟩ = some (.int .i64 0) ∧ w'.cell? ⟨w.heap.size, 4, none⟩ = some (.slice (some ⟨bp, op, none⟩) 1 cp) ∧ w'.cell? ⟨w.heap.size, 5, none⟩ = some (.int .i64 0) ∧ w'.cell? ⟨w.heap.size, 6, none⟩ = some (.int .i64 1) ∧ w'.cell? ⟨w.heap.size, 7, none⟩ = some (.int .i64 (-1)) ∧ w'.cell? ⟨w.heap.size, 8, none⟩ = some (.int .i64 (-1))))
    (first
      | (with_reducible exact HPX.out _ hv2)
      | (with_reducible exact HPX.out _ hv1)
      | (with_reducible exact HPX.out _ hv0)
      | fail)
    (first
      | (go_at_call 35; ((with_reducible refine (HD.out _ (HF2.out.trans hv1)).mono ?_)); rintro e v2 ⟨rfl, hf⟩; have hv2 : From W2 v2 := hv1.trans hf; clear hf)
      | (go_at_call 34; ((with_reducible refine (HW.out _ (HF2.out.trans hv2)).mono ?_)); rintro e v3 ⟨rfl, rfl⟩)
      | fail)
  have HF3 := Lib.hid (HF2.out.trans hv2)
  have HPX : Hid (∀ X, From v2 X → (X.cell? ⟨w.heap.size, 0, none⟩ = some (.int .i64 1) ∧ X.cell? ⟨w.heap.size, 1, none⟩ = some (.int .i64 0) ∧ X.cell? ⟨w.heap.size, 2, none⟩ = some (.bool false) ∧ X.cell? ⟨w.heap.size, 3, none⟩ = some (.int .i64 0) ∧ X.cell? ⟨w.heap.size, 4, none⟩ = some (.slice (some ⟨bp, op, none⟩) 1 cp) ∧ X.cell? ⟨w.heap.size, 5, none⟩ = some (.int .i64 0) ∧ X.cell? ⟨w.heap.size, 6, none⟩ = some (.int .i64 1) ∧ X.cell? ⟨w.heap.size, 7, none⟩ = some (.int .i64 (-1)) ∧ X.cell? ⟨w.heap.size, 8, none⟩ = some (.int .i64 (-1)))) := fun X f => HPX.out X (hv2.trans f)
  have HNX : Hid (∀ X, From v2 X → (X.cell? ⟨W1.heap.size, 0, none⟩ = some (.int .i64 7) ∧ X.cell? ⟨W1.heap.size, 1, none⟩ = some (.slice (some ⟨bn, on, none⟩) 1 cn))) := fun X f => HNX.out X (hv2.trans f)
  have HN5 := Lib.hid (hv2.cell HN5.out)
  have hq0 : From v2 v2 := From.refl v2
  clear hv0 hv1 hv2 p0 p1 p2 p3 p4 p5 p6 p7 p8 n0 n1
  go_wp2
  have hq1 : From v2 v2.drew := hq0.drew
  go_region_held3 (fun w' => (w'.cell? ⟨w.heap.size, 0, none⟩ = some (.int .i64 1) ∧ w'.cell? ⟨w.heap.size, 1, none⟩ = some (.int .i64 0) ∧ w'.cell? ⟨w.heap.size, 2, none⟩ = some (.bool false) ∧ w'.cell? ⟨w.heap.size, 3, none⟩ = some (.int .i64 0) ∧ w'.cell? ⟨w.heap.size, 4, none⟩ = some (.slice (some ⟨bp, op, none⟩) 1 cp) ∧ w'.cell? ⟨w.heap.size, 5, none⟩ = some (.int .i64 0) ∧ w'.cell? ⟨w.heap.size, 6, none⟩ = some (.int .i64 1) ∧ w'.cell? ⟨w.heap.size, 7, none⟩ = some (.int .i64 (-1)) ∧ w'.cell? ⟨w.heap.size, 8, none⟩ = some (.int .i64 (-1))))
    (first
      | (with_reducible exact HPX.out _ hq4)
      | (with_reducible exact HPX.out _ hq3)
      | (with_reducible exact HPX.out _ hq2)
      | (with_reducible exact HPX.out _ hq1)
      | (with_reducible exact HPX.out _ hq0)
      | fail)
    (first
      | (go_at_call 144; ((with_reducible refine (HL.out _ (HF3.out.trans hq1)).mono ?_)); rintro e v4 ⟨g, o, c, rfl, hz, hg, hb⟩; have hq2 : From v2 v4 := hq1.step hb; have hq3 := hq2.alloc (.cells #[.slice (some ⟨g, o, none⟩) 1 c, .slice (some ⟨bp, op, none⟩) 1 cp] 35); clear hb)
      | (go_at_call 143; ((refine (HA.out _ v4.heap.size 0 2 g o c bp op cp (by go_simp) (by go_simp) (((From.refl v4).alloc _).cell hz) ((HF3.out.trans hq3).cell HPC.out)).mono ?_)); rintro e v5 ⟨g5, o5, c5, rfl, hz5, hg5, hb5⟩; have hq4 : From v2 v5 := hq3.step hb5; clear hb5)
      | fail)
  have HF5 := Lib.hid (HF3.out.trans hq4)
  have HNX : Hid (∀ X, From v5 X → (X.cell? ⟨W1.heap.size, 0, none⟩ = some (.int .i64 7) ∧ X.cell? ⟨W1.heap.size, 1, none⟩ = some (.slice (some ⟨bn, on, none⟩) 1 cn))) := fun X f => HNX.out X (hq4.trans f)
  have HN5 := Lib.hid (hq4.cell HN5.out)
  have HZ5 := Lib.hid hz5
  clear hq0 hq1 hq2 hq3 hq4 hz hz5
  have hr0 : From v5 v5 := From.refl v5
  go_wp2
  have hr1 : From v5 v5.drew := hr0.drew
  go_region_held3 (fun w' => (w'.cell? ⟨W1.heap.size, 0, none⟩ = some (.int .i64 7) ∧ w'.cell? ⟨W1.heap.size, 1, none⟩ = some (.slice (some ⟨bn, on, none⟩) 1 cn)))
    (first
      | (with_reducible exact HNX.out _ hr1)
      | (with_reducible exact HNX.out _ hr0)
      | fail)
    (fail)
  go_wp2
  refine bodyPost_ret (v := .tuple #[.slice (some ⟨g5, o5, none⟩) 1 c5, .slice (some ⟨bn, on, none⟩) 1 cn, .bool true]) ?_ rfl ?_
  · simp only [results, Tryz.results109]; go_simp
  · exact ⟨_, _, _, _, _, _, rfl, HZ5.out, HN5.out, HF5.out.trans hr1⟩
set_option maxHeartbeats 4000000 in
set_option maxRecDepth 100000 in
theorem lfits_any (b bp op cp : Nat) (w : World) (h : ClF w b) (hp : w.cell? ⟨bp, op, none⟩ = some (.int .i64 3)) : Calls Tryz.prog 71 #[.pointer (some ⟨b + 6, 0, none⟩), pod1V bp op cp, .int .i64 7, .slice none 0 0] w fun e w' => e = .returned (.bool true) ∧ From w w' := by
  have HT : Hid (∀ X, From w X → Calls Tryz.prog 109 #[.pointer (some ⟨b + 6, 0, none⟩), pod1V bp op cp, .int .i64 7, .slice none 0 0] X fun e w' => ∃ g o c g' o' c', e = .returned (.tuple #[.slice (some ⟨g, o, none⟩) 1 c, .slice (some ⟨g', o', none⟩) 1 c', .bool true]) ∧ w'.cell? ⟨g, o, none⟩ = some (.int .i64 3) ∧ w'.cell? ⟨g', o', none⟩ = some (.int .i64 5) ∧ From X w') := fun X f => total_any b bp op cp X (h.below f.out) (f.cell hp)
  have HI := Lib.hid fun b1 o1 c1 b2 o2 c2 w => fitsOne 3 5 b1 o1 c1 b2 o2 c2 w
  clear h hp
  go_enter Tryz.func71, Tryz.ntmps71
  go_wp2_with fail
  refine (HT.out _ ((From.refl w).alloc _)).mono ?_
  rintro e W1 ⟨g, o, c, g', o', c', rfl, h3, h5, f1⟩
  have HF1 := Lib.hid (((From.refl w).alloc _).trans f1)
  have HI1 := Lib.hid (HI.out g o c g' o' c' W1 h3 h5)
  clear f1 h3 h5
  go_wp2_with fail
  refine HI1.out.mono ?_
  rintro e W2 ⟨rfl, hb⟩
  have HF2 := Lib.hid (HF1.out.step hb)
  clear hb
  go_wp2
  go_ret
  exact ⟨rfl, HF2.out⟩
end Go.Proofs.YtllipidegjpidaaGreatDoor
