/- cluster.Submit, settle; justify.Cluster of awake's views. -/
import Derived.Test.YtllipidegjpidaaGreatDoorJL
import Derived.Test.YtllipidegjpidaaGreatDoorJG
namespace Go.Proofs.YtllipidegjpidaaGreatDoor
set_option linter.all false
open Go.RowKit

theorem blk_cell {w w' : World} {g o : Nat} {v : Value} (h : w'.heap[g]? = w.heap[g]?) (hc : w.cell? ⟨g, o, none⟩ = some v) : w'.cell? ⟨g, o, none⟩ = some v := by
  simp only [World.cell?, h] at hc ⊢
  exact hc
theorem blk_frozen {w w' : World} {g o : Nat} (h : w'.heap[g]? = w.heap[g]?) : w'.frozen? ⟨g, o, none⟩ = w.frozen? ⟨g, o, none⟩ := by
  simp only [World.frozen?, h]
set_option maxHeartbeats 4000000 in
set_option maxRecDepth 100000 in
theorem submit_any {kn : List (Int × Value)} (b bk ok ck : Nat) (w : World) (h : Cl w b (.slice none 0 0) [] kn) (hk : w.cell? ⟨bk, ok, none⟩ = some (.int .i64 3)) :
    Calls Tryz.prog 20 #[.pointer (some ⟨b + 6, 0, none⟩), podVal 1 0 false 0 (.slice (some ⟨bk, ok, none⟩) 1 ck) 0 1 (-1) (-1)] w (Submitted w b kn) := by
  have HD : Hid (∀ X, From w X → Calls Tryz.prog 35 #[.pointer (some ⟨b + 6, 0, none⟩)] X fun e w' => e = .returned (.int .i64 1) ∧ From X w') := fun X f => cdims_any b X (h.below f.out)
  have HW : Hid (∀ X, From w X → Calls Tryz.prog 34 #[.slice (some ⟨bk, ok, none⟩) 1 ck, .int .i64 1] X fun e w' => e = .returned (.int .i64 (-1)) ∧ X = w') := fun X f => wrong1_any 3 bk ok ck X (by omega) (by omega) (f.cell hk)
  have HS : Hid (∀ X, From w X → Calls Tryz.prog 37 #[.pointer (some ⟨b + 2, 0, none⟩), podVal 1 0 false 0 (.slice (some ⟨bk, ok, none⟩) 1 ck) 0 1 (-1) (-1)] X (Submitted X b kn)) := fun X f => podSubmit_any b bk ok ck X (h.below f.out) (f.cell hk)
  have HCL := Lib.hid h
  have hlt := h.lt
  clear h hk
  go_enter Tryz.func20, Tryz.ntmps20
  go_wp2
  refine wp_named fun X1 hX1 => ?_
  have F1 : From w X1 := by rw [hX1]; exact ((From.refl w).alloc _).alloc _
  have e0 : X1.cell? ⟨w.heap.size, 0, none⟩ = some (.int .i64 1) := by rw [hX1]; go_simp
  have e1 : X1.cell? ⟨w.heap.size, 1, none⟩ = some (.int .i64 0) := by rw [hX1]; go_simp
  have e2 : X1.cell? ⟨w.heap.size, 2, none⟩ = some (.bool false) := by rw [hX1]; go_simp
  have e3 : X1.cell? ⟨w.heap.size, 3, none⟩ = some (.int .i64 0) := by rw [hX1]; go_simp
  have e4 : X1.cell? ⟨w.heap.size, 4, none⟩ = some (.slice (some ⟨bk, ok, none⟩) 1 ck) := by rw [hX1]; go_simp
  have e5 : X1.cell? ⟨w.heap.size, 5, none⟩ = some (.int .i64 0) := by rw [hX1]; go_simp
  have e6 : X1.cell? ⟨w.heap.size, 6, none⟩ = some (.int .i64 1) := by rw [hX1]; go_simp
  have e7 : X1.cell? ⟨w.heap.size, 7, none⟩ = some (.int .i64 (-1)) := by rw [hX1]; go_simp
  have e8 : X1.cell? ⟨w.heap.size, 8, none⟩ = some (.int .i64 (-1)) := by rw [hX1]; go_simp
  have z0 : X1.cell? ⟨w.heap.size + 1, 0, none⟩ = some (.int .i64 0) := by rw [hX1]; go_simp
  have k0 : X1.frozen? ⟨w.heap.size + 1, 0, none⟩ = false := by rw [hX1]; go_simp
  have z1 : X1.cell? ⟨w.heap.size + 1, 1, none⟩ = some (.int .i64 0) := by rw [hX1]; go_simp
  have k1 : X1.frozen? ⟨w.heap.size + 1, 1, none⟩ = false := by rw [hX1]; go_simp
  have z2 : X1.cell? ⟨w.heap.size + 1, 2, none⟩ = some (.bool false) := by rw [hX1]; go_simp
  have k2 : X1.frozen? ⟨w.heap.size + 1, 2, none⟩ = false := by rw [hX1]; go_simp
  have z3 : X1.cell? ⟨w.heap.size + 1, 3, none⟩ = some (.int .i64 0) := by rw [hX1]; go_simp
  have k3 : X1.frozen? ⟨w.heap.size + 1, 3, none⟩ = false := by rw [hX1]; go_simp
  have z4 : X1.cell? ⟨w.heap.size + 1, 4, none⟩ = some (.slice none 0 0) := by rw [hX1]; go_simp
  have k4 : X1.frozen? ⟨w.heap.size + 1, 4, none⟩ = false := by rw [hX1]; go_simp
  have z5 : X1.cell? ⟨w.heap.size + 1, 5, none⟩ = some (.int .i64 0) := by rw [hX1]; go_simp
  have k5 : X1.frozen? ⟨w.heap.size + 1, 5, none⟩ = false := by rw [hX1]; go_simp
  have z6 : X1.cell? ⟨w.heap.size + 1, 6, none⟩ = some (.int .i64 0) := by rw [hX1]; go_simp
  have k6 : X1.frozen? ⟨w.heap.size + 1, 6, none⟩ = false := by rw [hX1]; go_simp
  have z7 : X1.cell? ⟨w.heap.size + 1, 7, none⟩ = some (.int .i64 0) := by rw [hX1]; go_simp
  have k7 : X1.frozen? ⟨w.heap.size + 1, 7, none⟩ = false := by rw [hX1]; go_simp
  have z8 : X1.cell? ⟨w.heap.size + 1, 8, none⟩ = some (.int .i64 0) := by rw [hX1]; go_simp
  have k8 : X1.frozen? ⟨w.heap.size + 1, 8, none⟩ = false := by rw [hX1]; go_simp
  have hs1 : w.heap.size + 1 < X1.heap.size := by rw [hX1]; simp
  clear hX1
  have HF1 := Lib.hid F1
  have c0 := F1.cell HCL.out.c0
  clear F1
  have HK : Hid (∀ w', From X1 w' → (w'.cell? ⟨w.heap.size, 0, none⟩ = some (.int .i64 1) ∧ w'.cell? ⟨w.heap.size, 1, none⟩ = some (.int .i64 0) ∧ w'.cell? ⟨w.heap.size, 2, none⟩ = some (.bool false) ∧ w'.cell? ⟨w.heap.size, 3, none⟩ = some (.int .i64 0) ∧ w'.cell? ⟨w.heap.size, 4, none⟩ = some (.slice (some ⟨bk, ok, none⟩) 1 ck) ∧ w'.cell? ⟨w.heap.size, 5, none⟩ = some (.int .i64 0) ∧ w'.cell? ⟨w.heap.size, 6, none⟩ = some (.int .i64 1) ∧ w'.cell? ⟨w.heap.size, 7, none⟩ = some (.int .i64 (-1)) ∧ w'.cell? ⟨w.heap.size, 8, none⟩ = some (.int .i64 (-1)) ∧ w'.cell? ⟨b + 6, 0, none⟩ = some (.pointer (some ⟨b + 2, 0, none⟩)))) := fun w' hf => ⟨hf.cell e0, hf.cell e1, hf.cell e2, hf.cell e3, hf.cell e4, hf.cell e5, hf.cell e6, hf.cell e7, hf.cell e8, hf.cell c0⟩
  have hv0 : From X1 X1 := From.refl X1
  have hv1 : From X1 X1.drew := hv0.drew
  go_region_held3 (fun w' => w'.cell? ⟨w.heap.size, 0, none⟩ = some (.int .i64 1) ∧ w'.cell? ⟨w.heap.size, 1, none⟩ = some (.int .i64 0) ∧ w'.cell? ⟨w.heap.size, 2, none⟩ = some (.bool false) ∧ w'.cell? ⟨w.heap.size, 3, none⟩ = some (.int .i64 0) ∧ w'.cell? ⟨w.heap.size, 4, none⟩ = some (.slice (some ⟨bk, ok, none⟩) 1 ck) ∧ w'.cell? ⟨w.heap.size, 5, none⟩ = some (.int .i64 0) ∧ w'.cell? ⟨w.heap.size, 6, none⟩ = some (.int .i64 1) ∧ w'.cell? ⟨w.heap.size, 7, none⟩ = some (.int .i64 (-1)) ∧ w'.cell? ⟨w.heap.size, 8, none⟩ = some (.int .i64 (-1)) ∧ w'.cell? ⟨b + 6, 0, none⟩ = some (.pointer (some ⟨b + 2, 0, none⟩)))
    (first
      | (with_reducible exact HK.out _ hv2)
      | (with_reducible exact HK.out _ hv1)
      | (with_reducible exact HK.out _ hv0)
      | fail)
    (first
      | (go_at_call 35; ((with_reducible refine (HD.out _ (HF1.out.trans hv1)).mono ?_)); rintro e v2 ⟨rfl, f2⟩; have hv2 : From X1 v2 := hv1.trans f2; clear f2)
      | (go_at_call 34; ((with_reducible refine (HW.out _ (HF1.out.trans hv2)).mono ?_)); rintro e v3 ⟨rfl, rfl⟩)
      | fail)
  obtain ⟨E0, E1, E2, E3, E4, E5, E6, E7, E8, C0⟩ := HK.out _ hv2
  have HF2 := Lib.hid (HF1.out.trans hv2)
  have hs2 : w.heap.size + 1 < v2.heap.size := by have := hv2.out.size; omega
  have Z0 := hv2.cell z0
  have K0 := (hv2.out.frozen (p := ⟨w.heap.size + 1, 0, none⟩) hs1).trans k0
  have Z1 := hv2.cell z1
  have K1 := (hv2.out.frozen (p := ⟨w.heap.size + 1, 1, none⟩) hs1).trans k1
  have Z2 := hv2.cell z2
  have K2 := (hv2.out.frozen (p := ⟨w.heap.size + 1, 2, none⟩) hs1).trans k2
  have Z3 := hv2.cell z3
  have K3 := (hv2.out.frozen (p := ⟨w.heap.size + 1, 3, none⟩) hs1).trans k3
  have Z4 := hv2.cell z4
  have K4 := (hv2.out.frozen (p := ⟨w.heap.size + 1, 4, none⟩) hs1).trans k4
  have Z5 := hv2.cell z5
  have K5 := (hv2.out.frozen (p := ⟨w.heap.size + 1, 5, none⟩) hs1).trans k5
  have Z6 := hv2.cell z6
  have K6 := (hv2.out.frozen (p := ⟨w.heap.size + 1, 6, none⟩) hs1).trans k6
  have Z7 := hv2.cell z7
  have K7 := (hv2.out.frozen (p := ⟨w.heap.size + 1, 7, none⟩) hs1).trans k7
  have Z8 := hv2.cell z8
  have K8 := (hv2.out.frozen (p := ⟨w.heap.size + 1, 8, none⟩) hs1).trans k8
  clear hv0 hv1 hv2 HK c0 e0 z0 k0 e1 z1 k1 e2 z2 k2 e3 z3 k3 e4 z4 k4 e5 z5 k5 e6 z6 k6 e7 z7 k7 e8 z8 k8
  go_wp2
  have HK : Hid (∀ w', From v2 w' → (w'.cell? ⟨w.heap.size, 0, none⟩ = some (.int .i64 1) ∧ w'.cell? ⟨w.heap.size, 1, none⟩ = some (.int .i64 0) ∧ w'.cell? ⟨w.heap.size, 2, none⟩ = some (.bool false) ∧ w'.cell? ⟨w.heap.size, 3, none⟩ = some (.int .i64 0) ∧ w'.cell? ⟨w.heap.size, 4, none⟩ = some (.slice (some ⟨bk, ok, none⟩) 1 ck) ∧ w'.cell? ⟨w.heap.size, 5, none⟩ = some (.int .i64 0) ∧ w'.cell? ⟨w.heap.size, 6, none⟩ = some (.int .i64 1) ∧ w'.cell? ⟨w.heap.size, 7, none⟩ = some (.int .i64 (-1)) ∧ w'.cell? ⟨w.heap.size, 8, none⟩ = some (.int .i64 (-1)) ∧ w'.cell? ⟨b + 6, 0, none⟩ = some (.pointer (some ⟨b + 2, 0, none⟩)))) := fun w' hf => ⟨hf.cell E0, hf.cell E1, hf.cell E2, hf.cell E3, hf.cell E4, hf.cell E5, hf.cell E6, hf.cell E7, hf.cell E8, hf.cell C0⟩
  have hv0 : From v2 v2 := From.refl v2
  have hv1 : From v2 v2.drew := hv0.drew
  have n5 : w.heap.size ≠ b := by omega
  have n6 : w.heap.size ≠ b + 2 := by omega
  have n7 : w.heap.size + 1 ≠ b := by omega
  have n8 : w.heap.size + 1 ≠ b + 2 := by omega
  have n9 : b + 6 ≠ b := by omega
  have n10 : b + 6 ≠ b + 2 := by omega
  have n11 : ¬ b + 6 = w.heap.size + 1 := by omega
  have n12 : ¬ w.heap.size + 1 = b + 6 := by omega
  have n13 : ¬ b + 5 = w.heap.size := by omega
  have n14 : ¬ w.heap.size = b + 5 := by omega
  have hl0 : w.heap.size < v2.drew.heap.size := by simp; omega
  have hl1 : w.heap.size + 1 < v2.drew.heap.size := by simp; omega
  have hl2 : b + 6 < v2.drew.heap.size := by simp; omega
  have HD0 := Lib.hid (HK.out _ hv1)
  go_region_held3 (fun w' => w'.cell? ⟨w.heap.size, 0, none⟩ = some (.int .i64 1) ∧ w'.cell? ⟨w.heap.size, 1, none⟩ = some (.int .i64 0) ∧ w'.cell? ⟨w.heap.size, 2, none⟩ = some (.bool false) ∧ w'.cell? ⟨w.heap.size, 3, none⟩ = some (.int .i64 0) ∧ w'.cell? ⟨w.heap.size, 4, none⟩ = some (.slice (some ⟨bk, ok, none⟩) 1 ck) ∧ w'.cell? ⟨w.heap.size, 5, none⟩ = some (.int .i64 0) ∧ w'.cell? ⟨w.heap.size, 6, none⟩ = some (.int .i64 1) ∧ w'.cell? ⟨w.heap.size, 7, none⟩ = some (.int .i64 (-1)) ∧ w'.cell? ⟨w.heap.size, 8, none⟩ = some (.int .i64 (-1)) ∧ w'.cell? ⟨b + 6, 0, none⟩ = some (.pointer (some ⟨b + 2, 0, none⟩)))
    (first
      | (with_reducible exact hSv)
      | (with_reducible exact HK.out _ hv1)
      | (with_reducible exact HK.out _ hv0)
      | go_keep
      | fail)
    (first
      | (go_at_call 37; ((with_reducible refine (HS.out _ (HF2.out.trans hv1)).mono ?_)); rintro e v3 ⟨br, orr, cr, bi, ci, b2, o2, c2, rfl, hcl, r1, r2, r3, r4, r5, r5b, r6, r7, r8⟩;
          have hSv : (v3.cell? ⟨w.heap.size, 0, none⟩ = some (.int .i64 1) ∧ v3.cell? ⟨w.heap.size, 1, none⟩ = some (.int .i64 0) ∧ v3.cell? ⟨w.heap.size, 2, none⟩ = some (.bool false) ∧ v3.cell? ⟨w.heap.size, 3, none⟩ = some (.int .i64 0) ∧ v3.cell? ⟨w.heap.size, 4, none⟩ = some (.slice (some ⟨bk, ok, none⟩) 1 ck) ∧ v3.cell? ⟨w.heap.size, 5, none⟩ = some (.int .i64 0) ∧ v3.cell? ⟨w.heap.size, 6, none⟩ = some (.int .i64 1) ∧ v3.cell? ⟨w.heap.size, 7, none⟩ = some (.int .i64 (-1)) ∧ v3.cell? ⟨w.heap.size, 8, none⟩ = some (.int .i64 (-1)) ∧ v3.cell? ⟨b + 6, 0, none⟩ = some (.pointer (some ⟨b + 2, 0, none⟩))) := ⟨blk_cell (r6 _ hl0 n5 n6) HD0.out.1, blk_cell (r6 _ hl0 n5 n6) HD0.out.2.1, blk_cell (r6 _ hl0 n5 n6) HD0.out.2.2.1, blk_cell (r6 _ hl0 n5 n6) HD0.out.2.2.2.1, blk_cell (r6 _ hl0 n5 n6) HD0.out.2.2.2.2.1, blk_cell (r6 _ hl0 n5 n6) HD0.out.2.2.2.2.2.1, blk_cell (r6 _ hl0 n5 n6) HD0.out.2.2.2.2.2.2.1, blk_cell (r6 _ hl0 n5 n6) HD0.out.2.2.2.2.2.2.2.1, blk_cell (r6 _ hl0 n5 n6) HD0.out.2.2.2.2.2.2.2.2.1, blk_cell (r6 _ hl2 n9 n10) HD0.out.2.2.2.2.2.2.2.2.2⟩;
          have HR := Lib.hid hcl; have HR1 := Lib.hid r1; have HR2 := Lib.hid r2; have HR3 := Lib.hid r3; have HR6 := Lib.hid r6; have HR8 := Lib.hid r8;
          have y0 := blk_cell (r6 _ hl1 n7 n8) (hv1.cell Z0); have m0 := (blk_frozen (o := 0) (r6 _ hl1 n7 n8)).trans ((hv1.out.frozen (p := ⟨w.heap.size + 1, 0, none⟩) hs2).trans K0);
          have y1 := blk_cell (r6 _ hl1 n7 n8) (hv1.cell Z1); have m1 := (blk_frozen (o := 1) (r6 _ hl1 n7 n8)).trans ((hv1.out.frozen (p := ⟨w.heap.size + 1, 1, none⟩) hs2).trans K1);
          have y2 := blk_cell (r6 _ hl1 n7 n8) (hv1.cell Z2); have m2 := (blk_frozen (o := 2) (r6 _ hl1 n7 n8)).trans ((hv1.out.frozen (p := ⟨w.heap.size + 1, 2, none⟩) hs2).trans K2);
          have y3 := blk_cell (r6 _ hl1 n7 n8) (hv1.cell Z3); have m3 := (blk_frozen (o := 3) (r6 _ hl1 n7 n8)).trans ((hv1.out.frozen (p := ⟨w.heap.size + 1, 3, none⟩) hs2).trans K3);
          have y4 := blk_cell (r6 _ hl1 n7 n8) (hv1.cell Z4); have m4 := (blk_frozen (o := 4) (r6 _ hl1 n7 n8)).trans ((hv1.out.frozen (p := ⟨w.heap.size + 1, 4, none⟩) hs2).trans K4);
          have y5 := blk_cell (r6 _ hl1 n7 n8) (hv1.cell Z5); have m5 := (blk_frozen (o := 5) (r6 _ hl1 n7 n8)).trans ((hv1.out.frozen (p := ⟨w.heap.size + 1, 5, none⟩) hs2).trans K5);
          have y6 := blk_cell (r6 _ hl1 n7 n8) (hv1.cell Z6); have m6 := (blk_frozen (o := 6) (r6 _ hl1 n7 n8)).trans ((hv1.out.frozen (p := ⟨w.heap.size + 1, 6, none⟩) hs2).trans K6);
          have y7 := blk_cell (r6 _ hl1 n7 n8) (hv1.cell Z7); have m7 := (blk_frozen (o := 7) (r6 _ hl1 n7 n8)).trans ((hv1.out.frozen (p := ⟨w.heap.size + 1, 7, none⟩) hs2).trans K7);
          have y8 := blk_cell (r6 _ hl1 n7 n8) (hv1.cell Z8); have m8 := (blk_frozen (o := 8) (r6 _ hl1 n7 n8)).trans ((hv1.out.frozen (p := ⟨w.heap.size + 1, 8, none⟩) hs2).trans K8);
          clear hcl r1 r2 r3 r6 r8)
      | fail)

  have HF3 := Lib.hid (HF2.out.trans hv1)
  have hlb7 : b + 6 < w.heap.size + 1 := by omega
  have HBB : Hid (Below b w v3) := (HF3.out.out.mono (by omega)).trans HR8.out
  have hbr : w.heap.size + 1 < br := by have h1 := hl1; omega
  have hbi : w.heap.size + 1 < bi := by have h1 := hl1; omega
  have hb2 : w.heap.size + 1 < b2 := by have h1 := hl1; omega
  have HBK : Hid (∀ g, g < w.heap.size → g ≠ b → g ≠ b + 2 → v3.heap[g]? = w.heap[g]?) := fun g h1 h2 h3 => (HR6.out g (by have := HF3.out.out.size; omega) h2 h3).trans (HF3.out.out.block g h1)
  have hz3 : w.heap.size ≤ v3.heap.size := by have := HF3.out.out.size; omega
  clear hSv hv0 hv1 HK HD0
  go_wp2
  refine bodyPost_ret (v := .tuple #[podVal 1 0 false 0 (.slice (some ⟨b2, o2, none⟩) 1 c2) 0 1 (-1) (-1), .nilIface]) ?_ rfl ?_
  · simp only [results, Tryz.results20]; go_simp
  · refine ⟨br, orr, cr, bi, ci, b2, o2, c2, rfl, ?_, ?_, ?_, ?_, by omega, by omega, by omega, ?_, ?_, ?_⟩
    · have h0 := HR.out
      repeat (first | (with_reducible exact h0) | (with_reducible refine Cl.other ?_ (Upd.setCell _ _ _ _) hlb7))
    · have c7 := HR1.out
      repeat (first | (with_reducible exact c7) | (with_reducible refine Upd.cell (Upd.setCell _ _ _ _) (by omega) ?_))
    · have c7 := HR2.out
      repeat (first | (with_reducible exact c7) | (with_reducible refine Upd.cell (Upd.setCell _ _ _ _) (by omega) ?_))
    · have c7 := HR3.out
      repeat (first | (with_reducible exact c7) | (with_reducible refine Upd.cell (Upd.setCell _ _ _ _) (by omega) ?_))
    · intro g h1 h2 h3
      have h0 := HBK.out g h1 h2 h3
      have h9 : g ≠ w.heap.size + 1 := by omega
      repeat (first | (with_reducible exact h0) | (with_reducible refine ((Upd.setCell _ _ _ _).block g h9).trans ?_))
    · simp only [World.size_setCell]; exact hz3
    · have h0 := HBB.out
      repeat (first | (with_reducible exact h0) | (with_reducible refine below_set ?_ (by omega) _))
set_option maxHeartbeats 4000000 in
set_option maxRecDepth 100000 in
theorem settle_any (c : Value) (b o cp : Nat) (w : World) : Calls Tryz.prog 21 #[c, podVal 1 0 false 0 (.slice (some ⟨b, o, none⟩) 1 cp) 0 1 (-1) (-1)] w fun e w' => e = .returned .nilIface ∧ From w w' := by
  go_enter Tryz.func21, Tryz.ntmps21
  go_wp2
  go_ret
  exact ⟨rfl, (From.refl w).alloc _⟩
end Go.Proofs.YtllipidegjpidaaGreatDoor
