/- AddNode into an empty cluster. -/
import Derived.Test.YtllipidegjpidaaGreatDoorJJ
namespace Go.Proofs.YtllipidegjpidaaGreatDoor
set_option linter.all false
open Go.RowKit

set_option maxHeartbeats 4000000 in
set_option maxRecDepth 100000 in
theorem nodeAdd_any {ids : Value} {kp : List (Int × Value)} (b bk ok ck : Nat) (w : World) (h : Cl w b ids kp []) (hk : w.cell? ⟨bk, ok, none⟩ = some (.int .i64 5)) :
    Calls Tryz.prog 32 #[.pointer (some ⟨b + 5, 0, none⟩), .agg #[.int .i64 7, .slice (some ⟨bk, ok, none⟩) 1 ck]] w fun e w' => e = .returned .nilIface ∧
      ∃ b1 o1 c1 b2 o2 c2, MapI w' (b + 3) [(7, entVal 7 (some ⟨b1, o1, none⟩) 1 c1 (some ⟨b2, o2, none⟩) 1 c2)] ∧ w'.cell? ⟨b1, o1, none⟩ = some (.int .i64 5) ∧ w'.cell? ⟨b2, o2, none⟩ = some (.int .i64 0) ∧ w.heap.size ≤ b1 ∧ w.heap.size ≤ b2 ∧ ∃ X, Below w.heap.size w X ∧ Upd (b + 3) X w' := by
  have HW : Hid (∀ X, From w X → Calls Tryz.prog 34 #[.slice (some ⟨bk, ok, none⟩) 1 ck, .int .i64 1] X fun e w' => e = .returned (.int .i64 (-1)) ∧ w' = X) := fun X f => (wrong1_any 5 bk ok ck X (by omega) (by omega) (f.cell hk)).mono fun e w' hz => ⟨hz.1, hz.2.symm⟩
  have HC : Hid (∀ X, From w X → Calls Tryz.prog 49 #[.slice (some ⟨bk, ok, none⟩) 1 ck] X fun e w' => ∃ b' o' c', e = .returned (.slice (some ⟨b', o', none⟩) 1 c') ∧ w'.cell? ⟨b', o', none⟩ = some (.int .i64 5) ∧ X.heap.size ≤ b' ∧ Below X.heap.size X w') := fun X f => clone1_any 5 bk ok ck X (f.cell hk)
  have HZ := Lib.hid zero1_any
  have HA := Lib.hid fun m tb a1 l1 c1 a2 l2 c2 w (h0 : w.cell? ⟨tb, 0, none⟩ = some (.int .i64 1024)) h1 hm => taddE_any m tb 1024 7 7 a1 l1 c1 a2 l2 c2 w (by omega) (by omega) h0 h1 hm
  have HN := Lib.hid asNil_any
  have HCL := Lib.hid h
  have hlt := h.lt
  clear hk h
  go_enter Tryz.func32, Tryz.ntmps32
  go_wp2
  refine wp_named fun X1 hX1 => ?_
  have F1 : From w X1 := by rw [hX1]; exact (From.refl w).alloc _
  have x0 : X1.cell? ⟨w.heap.size, 0, none⟩ = some (.int .i64 7) := by rw [hX1]; go_simp
  have x1 : X1.cell? ⟨w.heap.size, 1, none⟩ = some (.slice (some ⟨bk, ok, none⟩) 1 ck) := by rw [hX1]; go_simp
  have xf : X1.frozen? ⟨w.heap.size, 1, none⟩ = false := by rw [hX1]; go_simp
  have s0 := F1.cell HCL.out.s0
  have hx1l := cell_lt x0
  have HF1 := Lib.hid F1
  clear hX1 F1
  go_quiet ((go_at_call 34; exact Calls.quiet_of_same (HW.out _ (HF1.out.drewN _))))
  have F2 : From X1 (X1.drewN nq) := (From.refl X1).drewN _
  have x0 := F2.cell x0
  have x1 := F2.cell x1
  have hbs := cell_lt x1
  have xf2 := (F2.out.frozen (p := ⟨w.heap.size, 1, none⟩) hx1l).trans xf
  have HF2 := Lib.hid (HF1.out.trans F2)
  clear F2 s0 xf
  generalize X1.drewN nq = X2 at *
  go_wp2_with fail
  refine (HC.out _ HF2.out).mono ?_
  rintro e W1 ⟨b1, o1, c1, rfl, hc1, hb1, hb⟩
  have F3 : From X2 W1 := ⟨hb⟩
  have x0 := F3.cell x0
  have xf3 := (hb.frozen (p := ⟨w.heap.size, 1, none⟩) hbs).trans xf2
  have x1 := F3.cell x1
  have HF3 := Lib.hid (HF2.out.trans F3)
  have hlx := HF2.out.out.size
  have hl1 := cell_lt hc1
  have hne : ¬ w.heap.size = b1 := by omega
  have hne2 : ¬ b1 = w.heap.size := by omega
  clear hb F3 xf2
  go_wp2
  refine wp_named fun X3 hX3 => ?_
  have hlw := cell_lt x0
  have hB3 : Below w.heap.size w X3 := by rw [hX3]; exact (below_set HF3.out.out (Nat.le_refl _) _).alloc (by have := HF3.out.out.size; simpa using this) _
  have y0 : X3.cell? ⟨w.heap.size, 0, none⟩ = some (.int .i64 7) := by rw [hX3]; go_simp
  have y1 : X3.cell? ⟨w.heap.size, 1, none⟩ = some (.slice (some ⟨b1, o1, none⟩) 1 c1) := by rw [hX3]; go_simp
  have hc3 : X3.cell? ⟨b1, o1, none⟩ = some (.int .i64 5) := by rw [hX3]; go_simp
  have HCX := Lib.hid (HCL.out.below hB3)
  have HB3 := Lib.hid hB3
  have HC3 := Lib.hid hc3
  have hl3 := cell_lt hc3
  have HK : Hid (∀ w', From X3 w' → (w'.cell? ⟨w.heap.size, 0, none⟩ = some (.int .i64 7) ∧ w'.cell? ⟨w.heap.size, 1, none⟩ = some (.slice (some ⟨b1, o1, none⟩) 1 c1) ∧ w'.cell? ⟨b + 5, 0, none⟩ = some (.int .i64 1) ∧ w'.cell? ⟨b + 5, 1, none⟩ = some (.pointer (some ⟨b + 4, 0, none⟩)))) := fun w' hf => ⟨hf.cell y0, hf.cell y1, hf.cell HCX.out.s0, hf.cell HCX.out.s1⟩
  clear hX3 hB3 y0 y1 hc3 HF3 hne hne2 hl1 hc1 x0 x1 xf3
  have HS9 : Hid (∀ X' w', From X3 X' → Upd (b + 3) X' w' → (w'.cell? ⟨w.heap.size, 0, none⟩ = some (.int .i64 7) ∧ w'.cell? ⟨w.heap.size, 1, none⟩ = some (.slice (some ⟨b1, o1, none⟩) 1 c1) ∧ w'.cell? ⟨b + 5, 0, none⟩ = some (.int .i64 1) ∧ w'.cell? ⟨b + 5, 1, none⟩ = some (.pointer (some ⟨b + 4, 0, none⟩)))) := fun X' w' f u => ⟨u.cell (by omega) (HK.out _ f).1, u.cell (by omega) (HK.out _ f).2.1, u.cell (by omega) (HK.out _ f).2.2.1, u.cell (by omega) (HK.out _ f).2.2.2⟩
  have hv0 : From X3 X3 := From.refl X3
  have hv1 : From X3 X3.drew := hv0.drew
  go_region_held3 (fun w' => (w'.cell? ⟨w.heap.size, 0, none⟩ = some (.int .i64 7) ∧ w'.cell? ⟨w.heap.size, 1, none⟩ = some (.slice (some ⟨b1, o1, none⟩) 1 c1) ∧ w'.cell? ⟨b + 5, 0, none⟩ = some (.int .i64 1) ∧ w'.cell? ⟨b + 5, 1, none⟩ = some (.pointer (some ⟨b + 4, 0, none⟩))))
    (first
      | (with_reducible exact hSv)
      | (with_reducible exact HK.out _ hv2)
      | (with_reducible exact HK.out _ hv1)
      | (with_reducible exact HK.out _ hv0)
      | fail)
    (first
      | (go_at_call 51; ((with_reducible refine (HZ.out _).mono ?_)); rintro e v2 ⟨b2, o2, c2, rfl, hc2, hb2, hb⟩; have hv2 : From X3 v2 := hv1.step hb; have hbz := hv1.out.size; clear hb)
      | (go_at_call 50; go_must (((with_reducible refine (HA.out _ _ _ _ _ _ _ _ _ ((HCX.out.below hv2.out).u0) ((HCX.out.below hv2.out).u1) ((HCX.out.below hv2.out).mn)).mono ?_)); rintro e v3 ⟨rfl, hm, X9, f9, u9⟩; have hSv := HS9.out _ _ (hv2.trans f9) u9; have HM := Lib.hid hm; have HU9 := Lib.hid u9; have HF9 := Lib.hid f9; clear hm u9 f9))
      | fail)
  have q5 : v3.cell? ⟨b1, o1, none⟩ = some (.int .i64 5) := HU9.out.cell (by omega) (HF9.out.cell (hv2.cell HC3.out))
  have q6 : v3.cell? ⟨b2, o2, none⟩ = some (.int .i64 0) := HU9.out.cell (by omega) (HF9.out.cell hc2)
  have HR : Hid (MapI v3 (b + 3) [(7, entVal 7 (some ⟨b1, o1, none⟩) 1 c1 (some ⟨b2, o2, none⟩) 1 c2)] ∧ v3.cell? ⟨b1, o1, none⟩ = some (.int .i64 5) ∧ v3.cell? ⟨b2, o2, none⟩ = some (.int .i64 0) ∧ w.heap.size ≤ b1 ∧ w.heap.size ≤ b2 ∧ ∃ X, Below w.heap.size w X ∧ Upd (b + 3) X v3) :=
    ⟨HM.out, q5, q6, by omega, by have h1 := HB3.out.size; omega, X9, HB3.out.trans ((hv2.trans HF9.out).out.mono HB3.out.size), HU9.out⟩
  clear q5 q6 hSv hv0 hv1 hv2 hc2 hb2 hbz
  go_wp2_with (go_at_call 52; refine (HN.out _ _).mono ?_; rintro e w9 ⟨rfl, rfl⟩)
  go_ret
  exact ⟨rfl, _, _, _, _, _, _, HR.out⟩
set_option maxHeartbeats 4000000 in
set_option maxRecDepth 100000 in
theorem addNode_any {ids : Value} {kp : List (Int × Value)} (b bk ok ck : Nat) (w : World) (h : Cl w b ids kp []) (hk : w.cell? ⟨bk, ok, none⟩ = some (.int .i64 5)) :
    Calls Tryz.prog 19 #[.pointer (some ⟨b + 6, 0, none⟩), .agg #[.int .i64 7, .slice (some ⟨bk, ok, none⟩) 1 ck]] w fun e w' => e = .returned .nilIface ∧
      ∃ b1 o1 c1 b2 o2 c2, Cl w' b ids kp [(7, entVal 7 (some ⟨b1, o1, none⟩) 1 c1 (some ⟨b2, o2, none⟩) 1 c2)] ∧ w'.cell? ⟨b1, o1, none⟩ = some (.int .i64 5) ∧ w'.cell? ⟨b2, o2, none⟩ = some (.int .i64 0) ∧ w.heap.size ≤ b1 ∧ w.heap.size ≤ b2 ∧ ∃ X, Below w.heap.size w X ∧ Upd (b + 3) X w' := by
  have HS : Hid (∀ X, From w X → Calls Tryz.prog 31 #[.pointer (some ⟨b + 6, 0, none⟩)] X fun e w' => e = .returned (.agg #[.pointer (some ⟨b + 2, 0, none⟩), .pointer (some ⟨b + 5, 0, none⟩)]) ∧ From X w') := fun X f => state_any b X (h.below f.out)
  have HA : Hid (∀ X, From w X → Calls Tryz.prog 32 #[.pointer (some ⟨b + 5, 0, none⟩), .agg #[.int .i64 7, .slice (some ⟨bk, ok, none⟩) 1 ck]] X fun e w' => e = .returned .nilIface ∧
      ∃ b1 o1 c1 b2 o2 c2, MapI w' (b + 3) [(7, entVal 7 (some ⟨b1, o1, none⟩) 1 c1 (some ⟨b2, o2, none⟩) 1 c2)] ∧ w'.cell? ⟨b1, o1, none⟩ = some (.int .i64 5) ∧ w'.cell? ⟨b2, o2, none⟩ = some (.int .i64 0) ∧ X.heap.size ≤ b1 ∧ X.heap.size ≤ b2 ∧ ∃ Y, Below X.heap.size X Y ∧ Upd (b + 3) Y w') := fun X f => nodeAdd_any b bk ok ck X (h.below f.out) (f.cell hk)
  have HCL := Lib.hid h
  have hlt := h.lt
  have hf1 := stateField1 (some ⟨b + 2, 0, none⟩) (some ⟨b + 5, 0, none⟩)
  clear h hk
  go_enter Tryz.func19, Tryz.ntmps19
  go_wp2
  refine wp_named fun X1 hX1 => ?_
  have F1 : From w X1 := by rw [hX1]; exact (From.refl w).alloc _
  have x0 : X1.cell? ⟨w.heap.size, 0, none⟩ = some (.int .i64 7) := by rw [hX1]; go_simp
  have x1 : X1.cell? ⟨w.heap.size, 1, none⟩ = some (.slice (some ⟨bk, ok, none⟩) 1 ck) := by rw [hX1]; go_simp
  have HF1 := Lib.hid F1
  clear hX1 F1
  have HK : Hid (∀ w', From X1 w' → (w'.cell? ⟨w.heap.size, 0, none⟩ = some (.int .i64 7) ∧ w'.cell? ⟨w.heap.size, 1, none⟩ = some (.slice (some ⟨bk, ok, none⟩) 1 ck))) := fun w' hf => ⟨hf.cell x0, hf.cell x1⟩
  have HU : Hid (∀ Y w', From X1 Y → Upd (b + 3) Y w' → (w'.cell? ⟨w.heap.size, 0, none⟩ = some (.int .i64 7) ∧ w'.cell? ⟨w.heap.size, 1, none⟩ = some (.slice (some ⟨bk, ok, none⟩) 1 ck))) := fun Y w' f u => ⟨u.cell (by omega) (HK.out _ f).1, u.cell (by omega) (HK.out _ f).2⟩
  clear x0 x1
  have hv0 : From X1 X1 := From.refl X1
  have hv1 : From X1 X1.drew := hv0.drew
  go_region_held3 (fun w' => w'.cell? ⟨w.heap.size, 0, none⟩ = some (.int .i64 7) ∧ w'.cell? ⟨w.heap.size, 1, none⟩ = some (.slice (some ⟨bk, ok, none⟩) 1 ck))
    (first
      | (with_reducible exact hSv)
      | (with_reducible exact HK.out _ hv2)
      | (with_reducible exact HK.out _ hv1)
      | (with_reducible exact HK.out _ hv0)
      | fail)
    (first
      | (go_at_call 31; ((with_reducible refine (HS.out _ (HF1.out.trans hv1)).mono ?_)); rintro e v2 ⟨rfl, f2⟩; have hv2 : From X1 v2 := hv1.trans f2; clear f2)
      | (go_at_call 32; ((with_reducible refine (HA.out _ (HF1.out.trans hv2)).mono ?_)); rintro e v3 ⟨rfl, b1, o1, c1, b2, o2, c2, hm, q5, q6, g5, g6, Y9, f9, u9⟩; have hSv := HU.out _ _ (hv2.trans ⟨f9⟩) u9; have HM := Lib.hid hm; have HQ5 := Lib.hid q5; have HQ6 := Lib.hid q6; have HF9 := Lib.hid f9; have HU9 := Lib.hid u9; clear hm q5 q6 f9 u9)
      | fail)
  have HG : From w v2 := HF1.out.trans hv2
  have HB : Below w.heap.size w Y9 := HG.out.trans (HF9.out.mono HG.out.size)
  have HCY := HCL.out.below HB
  have HR : Hid (Cl v3 b ids kp [(7, entVal 7 (some ⟨b1, o1, none⟩) 1 c1 (some ⟨b2, o2, none⟩) 1 c2)] ∧ v3.cell? ⟨b1, o1, none⟩ = some (.int .i64 5) ∧ v3.cell? ⟨b2, o2, none⟩ = some (.int .i64 0) ∧ w.heap.size ≤ b1 ∧ w.heap.size ≤ b2 ∧ ∃ X, Below w.heap.size w X ∧ Upd (b + 3) X v3) :=
    ⟨HCY.updN HU9.out HM.out, HQ5.out, HQ6.out, by have := HG.out.size; omega, by have := HG.out.size; omega, Y9, HB, HU9.out⟩
  clear HG HB HCY hSv hv0 hv1 hv2
  go_wp2
  go_ret
  exact ⟨rfl, _, _, _, _, _, _, HR.out⟩
end Go.Proofs.YtllipidegjpidaaGreatDoor
