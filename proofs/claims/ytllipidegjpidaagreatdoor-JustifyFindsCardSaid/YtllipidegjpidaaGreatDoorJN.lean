/- justify.Cluster of awake's views. -/
import Derived.Test.YtllipidegjpidaaGreatDoorJM
namespace Go.Proofs.YtllipidegjpidaaGreatDoor
set_option linter.all false
open Go.RowKit

/-- The cluster of awake. -/
def ClF (w : World) (b : Nat) : Prop := ∃ br orr cr bi ci b1 o1 c1 b2 o2 c2, Cl w b (.slice (some ⟨bi, 0, none⟩) 1 ci) [(1, podVal 1 0 false 0 (.slice (some ⟨br, orr, none⟩) 1 cr) 0 1 (-1) (-1))] [(7, entVal 7 (some ⟨b1, o1, none⟩) 1 c1 (some ⟨b2, o2, none⟩) 1 c2)] ∧
  w.cell? ⟨br, orr, none⟩ = some (.int .i64 3) ∧ w.cell? ⟨bi, 0, none⟩ = some (.int .i64 1) ∧ w.cell? ⟨b1, o1, none⟩ = some (.int .i64 5) ∧ w.cell? ⟨b2, o2, none⟩ = some (.int .i64 0)
theorem ClF.below {w w' : World} {b : Nat} (h : ClF w b) (f : Below w.heap.size w w') : ClF w' b := by
  obtain ⟨br, orr, cr, bi, ci, b1, o1, c1, b2, o2, c2, h0, h1, h2, h3, h4⟩ := h
  exact ⟨br, orr, cr, bi, ci, b1, o1, c1, b2, o2, c2, h0.below f, keepl f h1, keepl f h2, keepl f h3, keepl f h4⟩
set_option maxHeartbeats 4000000 in
set_option maxRecDepth 100000 in
theorem cluster0_any (ba : Nat) (w : World) (h : w.cell? ⟨ba, 0, none⟩ = some (.int .i64 1)) : Calls Tryz.prog 13 #[noView ba] w fun e w' => e = .returned (.tuple #[.pointer none, .bool false]) ∧ From w w' := by
  have HC : Hid (∀ X, From w X → Calls Tryz.prog 17 #[noView ba] X fun e w' => e = .returned (.bool false) ∧ Below X.heap.size X w') := fun X f => clean0 ba X (f.cell h)
  clear h
  go_enter Tryz.func13, Tryz.ntmps13
  go_wp2_with fail
  refine calls_named fun X hX => ?_
  have F1 : From w X := by rw [hX]; exact (From.refl w).alloc _
  clear hX
  refine (HC.out _ F1).mono ?_
  rintro e w1 ⟨rfl, hb⟩
  have HF := Lib.hid (F1.step hb)
  clear hb F1
  go_wp2
  refine bodyPost_ret (v := .tuple #[.pointer none, .bool false]) ?_ rfl ⟨rfl, HF.out⟩
  simp only [results, Tryz.results13]; go_simp
set_option maxHeartbeats 4000000 in
set_option maxRecDepth 100000 in
theorem cluster1_any (w : World) (bn bp bc br ba : Nat) (s : ByteArray) (hs : s.toList.isEmpty = false) (h : AwV w bn bp bc br ba) (hn : w.cell? ⟨2, 1, none⟩ = some (.string s)) :
    Calls Tryz.prog 13 #[awView bn bp ba] w fun e w' => ∃ b, e = .returned (.tuple #[.pointer (some ⟨b + 6, 0, none⟩), .bool true]) ∧ ClF w' b ∧ w.heap.size ≤ b ∧ Below w.heap.size w w' := by
  have HC : Hid (∀ X, From w X → Calls Tryz.prog 17 #[awView bn bp ba] X fun e w' => e = .returned (.bool true) ∧ Below X.heap.size X w') := fun X f => clean1 X bn bp bc br ba s hs (h.below f.out) (f.cell hn)
  have HNW := Lib.hid cnew_any
  have HAD := Lib.hid fun b bk ok ck (X : World) (hcl : Cl X b (.slice none 0 0) [] []) hk => addNode_any b bk ok ck X hcl hk
  have HSU := Lib.hid fun kn b bk ok ck (X : World) (hcl : Cl X b (.slice none 0 0) [] kn) hk => submit_any b bk ok ck X hcl hk
  have HST := Lib.hid settle_any
  have HA := Lib.hid h
  clear h hn
  go_enter Tryz.func13, Tryz.ntmps13
  go_wp2_with fail
  refine calls_named fun X hX => ?_
  have F1 : From w X := by rw [hX]; exact (From.refl w).alloc _
  have x0 : X.cell? ⟨w.heap.size, 0, none⟩ = some (.int .i64 1) := by rw [hX]; go_simp
  have x1 : X.cell? ⟨w.heap.size, 1, none⟩ = some (.slice (some ⟨bn, 0, none⟩) 1 1) := by rw [hX]; go_simp
  have x2 : X.cell? ⟨w.heap.size, 2, none⟩ = some (.slice (some ⟨bp, 0, none⟩) 1 1) := by rw [hX]; go_simp
  have x3 : X.cell? ⟨w.heap.size, 3, none⟩ = some (.slice (some ⟨ba, 0, none⟩) 1 1) := by rw [hX]; go_simp
  have x4 : X.cell? ⟨w.heap.size, 4, none⟩ = some (.slice none 0 0) := by rw [hX]; go_simp
  have hsx : w.heap.size < X.heap.size := by rw [hX]; simp
  clear hX
  refine (HC.out _ F1).mono ?_
  rintro e W1 ⟨rfl, hb⟩
  have F2 : From X W1 := ⟨hb⟩
  have x0 := F2.cell x0
  have x1 := F2.cell x1
  have x2 := F2.cell x2
  have HF := Lib.hid (F1.trans F2)
  have hsx1 : w.heap.size < W1.heap.size := by have := hb.size; omega
  clear hb F1 F2 x3 x4
  go_wp2_with fail
  refine (HNW.out W1).mono ?_
  rintro e W2 ⟨rfl, hcl, f3⟩
  have HB2 := Lib.hid (HF.out.trans f3)
  have HCL := Lib.hid hcl
  have x1 := f3.cell x1
  have x2 := f3.cell x2
  obtain ⟨b, hb⟩ : ∃ b, b = W1.heap.size := ⟨_, rfl⟩
  rw [← hb] at HCL ⊢
  have hlb : w.heap.size < b := by omega
  have hlt := HCL.out.lt
  clear hcl f3 hb hsx hsx1 x0 HF
  have A2 := HA.out.below HB2.out.out
  have n0 := A2.n0
  have n1 := A2.n1
  clear A2
  go_wp2
  refine wp_loop_rounds 2 ?_
  rw [rounds_succ]
  go_wp2_with fail
  refine calls_named fun W3 hW3 => ?_
  have f3 : From W2 W3 := by rw [hW3]; exact (From.refl _).alloc _
  have y2 := f3.cell x2
  clear hW3 n0 n1 x1 x2
  refine (HAD.out b bc 0 1 W3 (HCL.out.below f3.out) ((HA.out.below (HB2.out.trans f3).out).k0)).mono ?_
  rintro e W4 ⟨rfl, b1, o1, c1, b2, o2, c2, hcl, q1, q2, g1, g2, Y4, hb4, hu4⟩
  have hls3 := f3.out.size
  have HCL4 := Lib.hid hcl
  have x2 := hu4.cell (by omega) (keepl hb4 y2)
  have HB4 : Hid (Below w.heap.size w W4) := ((HB2.out.trans f3).out.trans (hb4.mono (HB2.out.trans f3).out.size)).trans (hu4.below (by omega))
  have HQ1 := Lib.hid q1
  have HQ2 := Lib.hid q2
  have hl4 := hcl.lt
  clear hcl q1 q2 hb4 hu4 y2 f3
  go_wp2
  rw [rounds_succ]
  go_wp2
  refine wp_loop_rounds 2 ?_
  have A4 := HA.out.below HB4.out
  have p0 := A4.p0
  have p1 := A4.p1
  have p2 := A4.p2
  have p3 := A4.p3
  have p4 := A4.p4
  have p5 := A4.p5
  have p6 := A4.p6
  have p7 := A4.p7
  have p8 := A4.p8
  clear A4
  rw [rounds_succ]
  go_wp2_with fail
  refine calls_named fun W5 hW5 => ?_
  have f5 : From W4 W5 := by rw [hW5]; exact (From.refl _).alloc _
  have y0 : W5.cell? ⟨W4.heap.size, 0, none⟩ = some (.int .i64 1) := by rw [hW5]; go_simp
  have y1 : W5.cell? ⟨W4.heap.size, 1, none⟩ = some (.int .i64 0) := by rw [hW5]; go_simp
  have y2 : W5.cell? ⟨W4.heap.size, 2, none⟩ = some (.bool false) := by rw [hW5]; go_simp
  have y3 : W5.cell? ⟨W4.heap.size, 3, none⟩ = some (.int .i64 0) := by rw [hW5]; go_simp
  have y4 : W5.cell? ⟨W4.heap.size, 4, none⟩ = some (.slice (some ⟨br, 0, none⟩) 1 1) := by rw [hW5]; go_simp
  have y5 : W5.cell? ⟨W4.heap.size, 5, none⟩ = some (.int .i64 0) := by rw [hW5]; go_simp
  have y6 : W5.cell? ⟨W4.heap.size, 6, none⟩ = some (.int .i64 1) := by rw [hW5]; go_simp
  have y7 : W5.cell? ⟨W4.heap.size, 7, none⟩ = some (.int .i64 (-1)) := by rw [hW5]; go_simp
  have y8 : W5.cell? ⟨W4.heap.size, 8, none⟩ = some (.int .i64 (-1)) := by rw [hW5]; go_simp
  clear hW5 p0 p1 p2 p3 p4 p5 p6 p7 p8 x2
  have hl5 := cell_lt y0
  refine (HSU.out _ b br 0 1 W5 (HCL4.out.below f5.out) ((HA.out.below (HB4.out.trans (f5.out.mono HB4.out.size))).r0)).mono ?_
  rintro e W6 ⟨sr, so, sc, bi, ci, d2, do2, dc2, rfl, hcl, r1, r2, r3, r4, r5, r5b, r6, r7, r8⟩
  have nb : W4.heap.size ≠ b := by omega
  have nb2 : W4.heap.size ≠ b + 2 := by omega
  have y0 := blk_cell (r6 _ hl5 nb nb2) y0
  have y1 := blk_cell (r6 _ hl5 nb nb2) y1
  have y2 := blk_cell (r6 _ hl5 nb nb2) y2
  have y3 := blk_cell (r6 _ hl5 nb nb2) y3
  have y4 := blk_cell (r6 _ hl5 nb nb2) y4
  have y5 := blk_cell (r6 _ hl5 nb nb2) y5
  have y6 := blk_cell (r6 _ hl5 nb nb2) y6
  have y7 := blk_cell (r6 _ hl5 nb nb2) y7
  have y8 := blk_cell (r6 _ hl5 nb nb2) y8
  have HR : Hid (ClF W6 b) := by
    have e1 := f5.cell HQ1.out
    have e2 := f5.cell HQ2.out
    have hlt3 := HCL.out.lt
    exact ⟨sr, so, sc, bi, ci, b1, o1, c1, b2, o2, c2, hcl, r1, r2, blk_cell (r6 _ (cell_lt e1) (by omega) (by omega)) e1, blk_cell (r6 _ (cell_lt e2) (by omega) (by omega)) e2⟩
  have hl56 := cell_lt y0
  have HB6 : Hid (Below w.heap.size w W6) := (HB4.out.trans (f5.out.mono HB4.out.size)).trans (r8.mono (by omega))
  clear hcl r1 r2 r3 r4 r5 r5b r6 r7 r8 nb nb2 f5 hl5
  go_wp2_with fail
  refine calls_named fun W7 hW7 => ?_
  have f7 : From W6 W7 := by rw [hW7]; exact (From.refl _).alloc _
  clear hW7
  refine (HST.out _ _ _ _ W7).mono ?_
  rintro e W8 ⟨rfl, f8⟩
  have HR8 := Lib.hid (HR.out.below (f7.trans f8).out)
  have HB8 : Hid (Below w.heap.size w W8) := HB6.out.trans ((f7.trans f8).out.mono HB6.out.size)
  have hlb8 : w.heap.size ≤ b := by omega
  clear f7 f8
  go_wp2
  rw [rounds_succ]
  go_wp2
  refine bodyPost_ret (v := .tuple #[.pointer (some ⟨b + 6, 0, none⟩), .bool true]) ?_ rfl ⟨b, rfl, HR8.out, hlb8, HB8.out⟩
  simp only [results, Tryz.results13]; go_simp
end Go.Proofs.YtllipidegjpidaaGreatDoor
