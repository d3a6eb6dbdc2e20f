/- justify.Verdict in the four cases of awake. -/
import Derived.Test.YtllipidegjpidaaGreatDoorKA
import Derived.Test.YtllipidegjpidaaGreatDoorJC
import Derived.Test.YtllipidegjpidaaGreatDoorJB
namespace Go.Proofs.YtllipidegjpidaaGreatDoor
set_option linter.all false
open Go.RowKit

theorem victims_one {base : Nat} {w : World} {a : Option Addr} {cp : Nat} {x : Int} (h : kInt.Own base w (.slice a 1 cp) [x]) : ∃ g o, a = some ⟨g, o, none⟩ ∧ w.cell? ⟨g, o, none⟩ = some (.int .i64 x) := by
  obtain ⟨a', c', he, h0 | ⟨g, off, rfl, hl, hc⟩⟩ := h.at_
  · cases h0
  · cases he
    exact ⟨g, off, rfl, hc 0 x rfl 0 _ rfl⟩
theorem dec_row {w : World} {gd c : Nat} {d : Dec} (h : DecCells w gd 0 d) : kDec.At w (.slice (some ⟨gd, 0, none⟩) 1 c) [d] :=
  ⟨_, _, rfl, .inr ⟨gd, 0, rfl, cell_lt h.1, fun j x hx i u hu => by
    match j, hx with
    | 0, hx =>
      cases hx
      match i, hu with
      | 0, hu => cases hu; exact h.1
      | 1, hu => cases hu; exact h.2.1
      | 2, hu => cases hu; exact h.2.2.1
      | 3, hu => cases hu; exact h.2.2.2
      | _ + 4, hu => cases hu
    | _ + 1, hx => cases hx⟩⟩
theorem dec_nil (w : World) (c : Nat) : kDec.At w (.slice none 0 c) [] := ⟨_, _, rfl, .inl rfl⟩
set_option maxHeartbeats 4000000 in
set_option maxRecDepth 100000 in
theorem verdictA (w : World) (bn bp bc br ba : Nat) (s : ByteArray) (hs : s.toList.isEmpty = false) (h : AwV w bn bp bc br ba) (hn : w.cell? ⟨2, 1, none⟩ = some (.string s)) (gd : Nat) (hd : DecCells w gd 0 ⟨6, 2, 7, 0⟩) :
    Calls Tryz.prog 14 #[awView bn bp ba, .int .i64 1, .slice (some ⟨gd, 0, none⟩) 1 1] w fun e w' => e = .returned (.int .i64 2) ∧ From w w' := by
  have HCL : Hid (∀ X, From w X → Calls Tryz.prog 13 #[awView bn bp ba] X fun e w' => ∃ b, e = .returned (.tuple #[.pointer (some ⟨b + 6, 0, none⟩), .bool true]) ∧ ClF w' b ∧ X.heap.size ≤ b ∧ Below X.heap.size X w') := fun X f => cluster1_any X bn bp bc br ba s hs (h.below f.out) (f.cell hn)
  have HVI : Hid (∀ X, From w X → Calls Tryz.prog 9 #[.slice (some ⟨gd, 0, none⟩) 1 1] X fun e w' => ∃ g o cp, e = .returned (.slice (some ⟨g, o, none⟩) 1 cp) ∧ w'.cell? ⟨g, o, none⟩ = some (.int .i64 2) ∧ From X w') := fun X f => by
    refine (victims_any _ [⟨6, 2, 7, 0⟩] X (dec_row (hd.from_ f)) (by simp)).mono ?_
    rintro e w' ⟨a, cp, rfl, ho, hb⟩
    have hv : victimsD [⟨6, 2, 7, 0⟩] = [2] := by decide
    rw [hv] at ho ⊢
    obtain ⟨g, o, rfl, hc⟩ := victims_one ho
    exact ⟨g, o, cp, rfl, hc, ⟨hb⟩⟩
  have HFI : Hid (∀ X, From w X → Calls Tryz.prog 6 #[.slice (some ⟨gd, 0, none⟩) 1 1, .int .i64 7, .int .i64 1] X fun e w' => e = .returned (.tuple #[.agg #[.int .i64 0, .int .i64 0, .int .i64 0, .int .i64 0], .bool false]) ∧ From X w') := fun X f => by
    refine (jfind_any _ [⟨6, 2, 7, 0⟩] 7 1 X (dec_row (hd.from_ f)) (by simp)).mono ?_
    rintro e w' ⟨⟨d, rfl, hneg, hpos⟩, hb⟩
    have hv : findD 7 1 [⟨6, 2, 7, 0⟩] = -1 := by decide
    have := hneg (by rw [hv]; decide)
    subst this
    rw [hv]
    exact ⟨rfl, ⟨hb⟩⟩
  clear h hn hd
  obtain ⟨W0, hW0⟩ : ∃ W0, W0 = w.alloc (.cells #[.int .i64 1, .slice (some ⟨bn, 0, none⟩) 1 1, .slice (some ⟨bp, 0, none⟩) 1 1, .slice (some ⟨ba, 0, none⟩) 1 1, .slice none 0 0] 43) := ⟨_, rfl⟩
  have F0 : From w W0 := by rw [hW0]; exact (From.refl w).alloc _
  go_enter Tryz.func14, Tryz.ntmps14
  go_wp2_with fail
  rw [← hW0]
  clear hW0
  refine (HCL.out _ F0).mono ?_
  rintro e W1 ⟨b, rfl, hcl, hlb, hb⟩
  obtain ⟨W2, hW2⟩ : ∃ W2, W2 = W1.alloc (.cells #[.pointer (some ⟨b + 6, 0, none⟩)] 44) := ⟨_, rfl⟩
  have f12 : From W1 W2 := by rw [hW2]; exact (From.refl W1).alloc _
  have HCF : Hid (ClF W2 b) := hcl.below f12.out
  have m0 : W2.cell? ⟨W1.heap.size, 0, none⟩ = some (.pointer (some ⟨b + 6, 0, none⟩)) := by rw [hW2]; go_simp
  have HF2 := Lib.hid ((F0.step hb).trans f12)
  have hl2 := cell_lt m0
  have HP1 := Lib.hid (fun X (f : From W2 X) => cpod1_any b X (HCF.out.below f.out))
  have HP2 := Lib.hid (fun X (f : From W2 X) => cpod2_any b X (HCF.out.below f.out))
  clear hcl hb F0 f12
  go_wp2_with fail
  rw [← hW2]
  clear hW2
  refine (HP1.out _ (From.refl W2)).mono ?_
  rintro e W3 ⟨gq, oq, cq, rfl, hcq, hlq, hb⟩
  obtain ⟨W4, hW4⟩ : ∃ W4, W4 = W3.alloc (.cells #[.int .i64 1, .int .i64 0, .bool false, .int .i64 0, .slice (some ⟨gq, oq, none⟩) 1 cq, .int .i64 0, .int .i64 1, .int .i64 (-1), .int .i64 (-1)] 40) := ⟨_, rfl⟩
  have f24 : From W2 W4 := by rw [hW4]; exact (From.mk hb).alloc _
  have m0 := f24.cell m0
  have p0 : W4.cell? ⟨W3.heap.size, 0, none⟩ = some (.int .i64 1) := by rw [hW4]; go_simp
  have p1 : W4.cell? ⟨W3.heap.size, 1, none⟩ = some (.int .i64 0) := by rw [hW4]; go_simp
  have p2 : W4.cell? ⟨W3.heap.size, 2, none⟩ = some (.bool false) := by rw [hW4]; go_simp
  have p3 : W4.cell? ⟨W3.heap.size, 3, none⟩ = some (.int .i64 0) := by rw [hW4]; go_simp
  have p4 : W4.cell? ⟨W3.heap.size, 4, none⟩ = some (.slice (some ⟨gq, oq, none⟩) 1 cq) := by rw [hW4]; go_simp
  have p5 : W4.cell? ⟨W3.heap.size, 5, none⟩ = some (.int .i64 0) := by rw [hW4]; go_simp
  have p6 : W4.cell? ⟨W3.heap.size, 6, none⟩ = some (.int .i64 1) := by rw [hW4]; go_simp
  have p7 : W4.cell? ⟨W3.heap.size, 7, none⟩ = some (.int .i64 (-1)) := by rw [hW4]; go_simp
  have p8 : W4.cell? ⟨W3.heap.size, 8, none⟩ = some (.int .i64 (-1)) := by rw [hW4]; go_simp
  have HCQ : Hid (W4.cell? ⟨gq, oq, none⟩ = some (.int .i64 3)) := by rw [hW4]; exact ((From.refl W3).alloc _).cell hcq
  have HF4 := Lib.hid (HF2.out.trans f24)
  have HF24 := Lib.hid f24
  have HWA := Lib.hid fun w => waits_any 1 w
  have hw1 : waitsB 1 = true := by decide
  rw [hw1] at HWA
  clear hcq hb f24 hw1
  go_wp2_with fail
  rw [← hW4]
  clear hW4
  refine (HWA.out _).mono ?_
  rintro e W5 ⟨rfl, rfl⟩
  go_wp2_with fail
  refine (HVI.out _ HF4.out).mono ?_
  rintro e W5 ⟨gv, ov, cv, rfl, hcv, f5⟩
  have m0 := f5.cell m0
  have p0 := f5.cell p0
  have p1 := f5.cell p1
  have p2 := f5.cell p2
  have p3 := f5.cell p3
  have p4 := f5.cell p4
  have p5 := f5.cell p5
  have p6 := f5.cell p6
  have p7 := f5.cell p7
  have p8 := f5.cell p8
  have HF5 := Lib.hid (HF4.out.trans f5)
  have HCQ := Lib.hid (f5.cell HCQ.out)
  have HF25 := Lib.hid (HF24.out.trans f5)
  clear f5
  go_wp2_with fail
  refine (HFI.out _ HF5.out).mono ?_
  rintro e W6 ⟨rfl, f6⟩
  have m0 := f6.cell m0
  have hcv := f6.cell hcv
  have p0 := f6.cell p0
  have p1 := f6.cell p1
  have p2 := f6.cell p2
  have p3 := f6.cell p3
  have p4 := f6.cell p4
  have p5 := f6.cell p5
  have p6 := f6.cell p6
  have p7 := f6.cell p7
  have p8 := f6.cell p8
  obtain ⟨W7, hW7⟩ : ∃ W7, W7 = W6.alloc (.cells #[.int .i64 0, .int .i64 0, .int .i64 0, .int .i64 0] 26) := ⟨_, rfl⟩
  have f67 : From W6 W7 := by rw [hW7]; exact (From.refl _).alloc _
  have hs7 : W7.heap.size = W6.heap.size + 1 := by rw [hW7]; simp
  have l1 := cell_lt m0
  have l3 := cell_lt p0
  have hs26 := (HF25.out.trans f6).out.size
  have hgq : gq < W6.heap.size + 1 := by have h1 := cell_lt HCQ.out; have h2 := f6.out.size; omega
  have hbt : W2.heap.size ≤ W6.heap.size + 1 := by omega
  have hlb2 := HF2.out.out.size
  obtain ⟨W8, hW8⟩ : ∃ W8, W8 = W7.alloc (.cells #[.pointer (some ⟨b + 6, 0, none⟩), .int .i64 1, .int .i64 0, .bool false, .int .i64 0, .slice (some ⟨gq, oq, none⟩) 1 cq, .int .i64 0, .int .i64 1, .int .i64 (-1), .int .i64 (-1), .int .i64 0, .bool false, .slice (some ⟨gv, ov, none⟩) 1 cv, .slice none 0 0] 64) := ⟨_, rfl⟩
  have f78 : From W7 W8 := by rw [hW8]; exact (From.refl _).alloc _
  have m8 := (f67.trans f78).cell m0
  have cv8 := (f67.trans f78).cell hcv
  have t0 : W8.cell? ⟨W7.heap.size, 0, none⟩ = some (.pointer (some ⟨b + 6, 0, none⟩)) := by rw [hW8]; go_simp
  have t1 : W8.cell? ⟨W7.heap.size, 1, none⟩ = some (.int .i64 1) := by rw [hW8]; go_simp
  have t2 : W8.cell? ⟨W7.heap.size, 2, none⟩ = some (.int .i64 0) := by rw [hW8]; go_simp
  have t3 : W8.cell? ⟨W7.heap.size, 3, none⟩ = some (.bool false) := by rw [hW8]; go_simp
  have t4 : W8.cell? ⟨W7.heap.size, 4, none⟩ = some (.int .i64 0) := by rw [hW8]; go_simp
  have t5 : W8.cell? ⟨W7.heap.size, 5, none⟩ = some (.slice (some ⟨gq, oq, none⟩) 1 cq) := by rw [hW8]; go_simp
  have t6 : W8.cell? ⟨W7.heap.size, 6, none⟩ = some (.int .i64 0) := by rw [hW8]; go_simp
  have t7 : W8.cell? ⟨W7.heap.size, 7, none⟩ = some (.int .i64 1) := by rw [hW8]; go_simp
  have t8 : W8.cell? ⟨W7.heap.size, 8, none⟩ = some (.int .i64 (-1)) := by rw [hW8]; go_simp
  have t9 : W8.cell? ⟨W7.heap.size, 9, none⟩ = some (.int .i64 (-1)) := by rw [hW8]; go_simp
  have t10 : W8.cell? ⟨W7.heap.size, 10, none⟩ = some (.int .i64 0) := by rw [hW8]; go_simp
  have t11 : W8.cell? ⟨W7.heap.size, 11, none⟩ = some (.bool false) := by rw [hW8]; go_simp
  have t12 : W8.cell? ⟨W7.heap.size, 12, none⟩ = some (.slice (some ⟨gv, ov, none⟩) 1 cv) := by rw [hW8]; go_simp
  have t13 : W8.cell? ⟨W7.heap.size, 13, none⟩ = some (.slice none 0 0) := by rw [hW8]; go_simp
  have tf : W8.frozen? ⟨W7.heap.size, 13, none⟩ = false := by rw [hW8]; go_simp
  rw [hs7] at t0 t1 t2 t3 t4 t5 t6 t7 t8 t9 t10 t11 t12 t13 tf
  have HCQ := Lib.hid (((f6.trans f67).trans f78).cell HCQ.out)
  have HF8 := Lib.hid (((HF5.out.trans f6).trans f67).trans f78)
  have HF28 := Lib.hid (((HF25.out.trans f6).trans f67).trans f78)
  have HW7 := Lib.hid hW7
  have HW8 := Lib.hid hW8
  have H7 := Lib.hid hs7
  clear f6 f67 f78 hW7 hW8 hs7
  go_wp2
  rw [← HW7.out]
  rw [← HW8.out]
  clear HW7 HW8 p0 p1 p2 p3 p4 p5 p6 p7 p8
  have hl8 := cell_lt t0
  refine wp_loop_rounds 2 ?_
  rw [rounds_succ]
  go_wp2_with fail
  refine (HP2.out _ HF28.out).mono ?_
  rintro e W9 ⟨rfl, hb⟩
  have f9 : From W8 W9 := ⟨hb⟩
  have t0 := f9.cell t0
  have t1 := f9.cell t1
  have t2 := f9.cell t2
  have t3 := f9.cell t3
  have t4 := f9.cell t4
  have t5 := f9.cell t5
  have t6 := f9.cell t6
  have t7 := f9.cell t7
  have t8 := f9.cell t8
  have t9 := f9.cell t9
  have t10 := f9.cell t10
  have t11 := f9.cell t11
  have t12 := f9.cell t12
  have t13 := f9.cell t13
  have tf := (hb.frozen (p := ⟨W6.heap.size + 1, 13, none⟩) hl8).trans tf
  have HF9 := Lib.hid (HF8.out.trans f9)
  have HF29 := Lib.hid (HF28.out.trans f9)
  have HCQ := Lib.hid (f9.cell HCQ.out)
  have hl9 := cell_lt t0
  generalize W6.heap.size + 1 = tq at *
  have hn9 : ¬ W9.heap.size = tq := by omega
  have hn10 : ¬ tq = W9.heap.size := by omega
  have hl10 : tq < W9.heap.size + 1 := by omega
  have hl11 : tq < W9.heap.size + 1 + 1 := by omega
  have hn11 : ¬ tq = W9.heap.size + 1 := by omega
  have hn12 : ¬ tq = W9.heap.size + 1 + 1 := by omega
  have hcap : ¬ 281474976710656 < Builtin.nextslicecap 1 0 * Tryz.t40.bytes := by decide +kernel
  clear f9 hb m0 hcv hl8 H7
  go_wp2
  generalize (Question.appendCap 1 0 40).cut (W9.tape W9.drawn (Question.appendCap 1 0 40)) = qc
  generalize hW10 : World.drew _ = W10
  have F10 : From w W10 := by
    rw [← hW10]
    exact ((((⟨below_set HF9.out.out (by omega) _⟩ : From w (W9.setCell _ _)).alloc _).alloc _).alloc _).drew
  have y0 : W10.cell? ⟨tq, 0, none⟩ = some (.pointer (some ⟨b + 6, 0, none⟩)) := by rw [← hW10]; clear hW10; go_simp
  have y1 : W10.cell? ⟨tq, 1, none⟩ = some (.int .i64 1) := by rw [← hW10]; clear hW10; go_simp
  have y2 : W10.cell? ⟨tq, 2, none⟩ = some (.int .i64 0) := by rw [← hW10]; clear hW10; go_simp
  have y3 : W10.cell? ⟨tq, 3, none⟩ = some (.bool false) := by rw [← hW10]; clear hW10; go_simp
  have y4 : W10.cell? ⟨tq, 4, none⟩ = some (.int .i64 0) := by rw [← hW10]; clear hW10; go_simp
  have y5 : W10.cell? ⟨tq, 5, none⟩ = some (.slice (some ⟨gq, oq, none⟩) 1 cq) := by rw [← hW10]; clear hW10; go_simp
  have y6 : W10.cell? ⟨tq, 6, none⟩ = some (.int .i64 0) := by rw [← hW10]; clear hW10; go_simp
  have y7 : W10.cell? ⟨tq, 7, none⟩ = some (.int .i64 1) := by rw [← hW10]; clear hW10; go_simp
  have y8 : W10.cell? ⟨tq, 8, none⟩ = some (.int .i64 (-1)) := by rw [← hW10]; clear hW10; go_simp
  have y9 : W10.cell? ⟨tq, 9, none⟩ = some (.int .i64 (-1)) := by rw [← hW10]; clear hW10; go_simp
  have y10 : W10.cell? ⟨tq, 10, none⟩ = some (.int .i64 0) := by rw [← hW10]; clear hW10; go_simp
  have y11 : W10.cell? ⟨tq, 11, none⟩ = some (.bool false) := by rw [← hW10]; clear hW10; go_simp
  have y12 : W10.cell? ⟨tq, 12, none⟩ = some (.slice (some ⟨gv, ov, none⟩) 1 cv) := by rw [← hW10]; clear hW10; go_simp
  have y13 : W10.cell? ⟨tq, 13, none⟩ = some (.slice (some ⟨W9.heap.size + 1 + 1, 0, none⟩) 1 qc) := by rw [← hW10]; clear hW10; go_simp
  have HEV : Hid (∀ X, From w X → ClF X b → X.cell? ⟨gq, oq, none⟩ = some (.int .i64 3) → ∀ av lv cv ad ld cd, Calls Tryz.prog 24 #[trialV b gq oq cq 0 av lv cv ad ld cd] X fun e w' => e = .returned (.int .i64 2) ∧ From X w') := fun X _ hc hr av lv cv ad ld cd => evicted_any b gq oq cq 0 av lv cv ad ld cd X hc hr
  have G10 : From W2 W10 := by
    rw [← hW10]
    exact ((((⟨below_set HF29.out.out hbt _⟩ : From W2 (W9.setCell _ _)).alloc _).alloc _).alloc _).drew
  have K10 : ClF W10 b := HCF.out.below G10.out
  have C10 : W10.cell? ⟨gq, oq, none⟩ = some (.int .i64 3) := by
    have h9 := HCQ.out
    have hne : ¬ gq = tq := by omega
    have hlg := cell_lt h9
    have hg1 : gq < W9.heap.size + 1 := by omega
    have hg2 : gq < W9.heap.size + 1 + 1 := by omega
    rw [← hW10]; clear hW10; go_simp
  have HF10 := Lib.hid F10
  have HEV1 := Lib.hid (HEV.out W10 F10 K10 C10)
  clear F10 G10 K10 C10 HEV hW10 t0 t1 t2 t3 t4 t5 t6 t7 t8 t9 t10 t11 t12 t13 tf
  rw [rounds_succ]
  go_wp2_with fail
  refine (HEV1.out _ _ _ _ _ _).mono ?_
  rintro e W11 ⟨rfl, f11⟩
  have HF11 := Lib.hid (HF10.out.trans f11)
  clear f11
  go_wp2
  go_ret
  exact ⟨rfl, HF11.out⟩
set_option maxHeartbeats 4000000 in
set_option maxRecDepth 100000 in
theorem verdictB (w : World) (bn bp bc br ba : Nat) (s : ByteArray) (hs : s.toList.isEmpty = false) (h : AwV w bn bp bc br ba) (hn : w.cell? ⟨2, 1, none⟩ = some (.string s)) :
    Calls Tryz.prog 14 #[awView bn bp ba, .int .i64 2, .slice none 0 0] w fun e w' => e = .returned (.int .i64 1) ∧ From w w' := by
  have HCL : Hid (∀ X, From w X → Calls Tryz.prog 13 #[awView bn bp ba] X fun e w' => ∃ b, e = .returned (.tuple #[.pointer (some ⟨b + 6, 0, none⟩), .bool true]) ∧ ClF w' b ∧ X.heap.size ≤ b ∧ Below X.heap.size X w') := fun X f => cluster1_any X bn bp bc br ba s hs (h.below f.out) (f.cell hn)
  clear h hn
  obtain ⟨W0, hW0⟩ : ∃ W0, W0 = w.alloc (.cells #[.int .i64 1, .slice (some ⟨bn, 0, none⟩) 1 1, .slice (some ⟨bp, 0, none⟩) 1 1, .slice (some ⟨ba, 0, none⟩) 1 1, .slice none 0 0] 43) := ⟨_, rfl⟩
  have F0 : From w W0 := by rw [hW0]; exact (From.refl w).alloc _
  go_enter Tryz.func14, Tryz.ntmps14
  go_wp2_with fail
  rw [← hW0]
  clear hW0
  refine (HCL.out _ F0).mono ?_
  rintro e W1 ⟨b, rfl, hcl, hlb, hb⟩
  obtain ⟨W2, hW2⟩ : ∃ W2, W2 = W1.alloc (.cells #[.pointer (some ⟨b + 6, 0, none⟩)] 44) := ⟨_, rfl⟩
  have f12 : From W1 W2 := by rw [hW2]; exact (From.refl W1).alloc _
  have HCF : Hid (ClF W2 b) := hcl.below f12.out
  have m0 : W2.cell? ⟨W1.heap.size, 0, none⟩ = some (.pointer (some ⟨b + 6, 0, none⟩)) := by rw [hW2]; go_simp
  have HF2 := Lib.hid ((F0.step hb).trans f12)
  have hl2 := cell_lt m0
  have HP1 := Lib.hid (fun X (f : From W2 X) => cpod1_any b X (HCF.out.below f.out))
  have HP2 := Lib.hid (fun X (f : From W2 X) => cpod2_any b X (HCF.out.below f.out))
  clear hcl hb F0 f12
  go_wp2_with fail
  rw [← hW2]
  clear hW2
  refine (HP2.out _ (From.refl W2)).mono ?_
  rintro e W3 ⟨rfl, hb⟩
  have HF3 := Lib.hid (HF2.out.step hb)
  clear hb
  go_wp2
  go_ret
  exact ⟨rfl, HF3.out.alloc _⟩
set_option maxHeartbeats 4000000 in
set_option maxRecDepth 100000 in
theorem verdictC (w : World) (bn bp bc br ba : Nat) (s : ByteArray) (hs : s.toList.isEmpty = false) (h : AwV w bn bp bc br ba) (hn : w.cell? ⟨2, 1, none⟩ = some (.string s)) :
    Calls Tryz.prog 14 #[awView bn bp ba, .int .i64 1, .slice none 0 0] w fun e w' => e = .returned (.int .i64 8) ∧ From w w' := by
  have HCL : Hid (∀ X, From w X → Calls Tryz.prog 13 #[awView bn bp ba] X fun e w' => ∃ b, e = .returned (.tuple #[.pointer (some ⟨b + 6, 0, none⟩), .bool true]) ∧ ClF w' b ∧ X.heap.size ≤ b ∧ Below X.heap.size X w') := fun X f => cluster1_any X bn bp bc br ba s hs (h.below f.out) (f.cell hn)
  have HVI : Hid (∀ X, From w X → Calls Tryz.prog 9 #[.slice none 0 0] X fun e w' => ∃ a cp, e = .returned (.slice a 0 cp) ∧ From X w') := fun X f => by
    refine (victims_any _ [] X (dec_nil X 0) (by simp)).mono ?_
    rintro e w' ⟨a, cp, rfl, ho, hb⟩
    have hv : victimsD [] = [] := by decide
    rw [hv] at ho ⊢
    exact ⟨a, cp, rfl, ⟨hb⟩⟩
  have HFI : Hid (∀ X, From w X → Calls Tryz.prog 6 #[.slice none 0 0, .int .i64 5, .int .i64 1] X fun e w' => e = .returned (.tuple #[.agg #[.int .i64 0, .int .i64 0, .int .i64 0, .int .i64 0], .bool false]) ∧ From X w') := fun X f => by
    refine (jfind_any _ [] 5 1 X (dec_nil X 0) (by simp)).mono ?_
    rintro e w' ⟨⟨d, rfl, hneg, hpos⟩, hb⟩
    have hv : findD 5 1 [] = -1 := by decide
    have := hneg (by rw [hv]; decide)
    subst this
    rw [hv]
    exact ⟨rfl, ⟨hb⟩⟩
  clear h hn
  obtain ⟨W0, hW0⟩ : ∃ W0, W0 = w.alloc (.cells #[.int .i64 1, .slice (some ⟨bn, 0, none⟩) 1 1, .slice (some ⟨bp, 0, none⟩) 1 1, .slice (some ⟨ba, 0, none⟩) 1 1, .slice none 0 0] 43) := ⟨_, rfl⟩
  have F0 : From w W0 := by rw [hW0]; exact (From.refl w).alloc _
  go_enter Tryz.func14, Tryz.ntmps14
  go_wp2_with fail
  rw [← hW0]
  clear hW0
  refine (HCL.out _ F0).mono ?_
  rintro e W1 ⟨b, rfl, hcl, hlb, hb⟩
  obtain ⟨W2, hW2⟩ : ∃ W2, W2 = W1.alloc (.cells #[.pointer (some ⟨b + 6, 0, none⟩)] 44) := ⟨_, rfl⟩
  have f12 : From W1 W2 := by rw [hW2]; exact (From.refl W1).alloc _
  have HCF : Hid (ClF W2 b) := hcl.below f12.out
  have m0 : W2.cell? ⟨W1.heap.size, 0, none⟩ = some (.pointer (some ⟨b + 6, 0, none⟩)) := by rw [hW2]; go_simp
  have HF2 := Lib.hid ((F0.step hb).trans f12)
  have hl2 := cell_lt m0
  have HP1 := Lib.hid (fun X (f : From W2 X) => cpod1_any b X (HCF.out.below f.out))
  have HP2 := Lib.hid (fun X (f : From W2 X) => cpod2_any b X (HCF.out.below f.out))
  clear hcl hb F0 f12
  go_wp2_with fail
  rw [← hW2]
  clear hW2
  refine (HP1.out _ (From.refl W2)).mono ?_
  rintro e W3 ⟨gq, oq, cq, rfl, hcq, hlq, hb⟩
  obtain ⟨W4, hW4⟩ : ∃ W4, W4 = W3.alloc (.cells #[.int .i64 1, .int .i64 0, .bool false, .int .i64 0, .slice (some ⟨gq, oq, none⟩) 1 cq, .int .i64 0, .int .i64 1, .int .i64 (-1), .int .i64 (-1)] 40) := ⟨_, rfl⟩
  have f24 : From W2 W4 := by rw [hW4]; exact (From.mk hb).alloc _
  have m0 := f24.cell m0
  have p0 : W4.cell? ⟨W3.heap.size, 0, none⟩ = some (.int .i64 1) := by rw [hW4]; go_simp
  have p1 : W4.cell? ⟨W3.heap.size, 1, none⟩ = some (.int .i64 0) := by rw [hW4]; go_simp
  have p2 : W4.cell? ⟨W3.heap.size, 2, none⟩ = some (.bool false) := by rw [hW4]; go_simp
  have p3 : W4.cell? ⟨W3.heap.size, 3, none⟩ = some (.int .i64 0) := by rw [hW4]; go_simp
  have p4 : W4.cell? ⟨W3.heap.size, 4, none⟩ = some (.slice (some ⟨gq, oq, none⟩) 1 cq) := by rw [hW4]; go_simp
  have p5 : W4.cell? ⟨W3.heap.size, 5, none⟩ = some (.int .i64 0) := by rw [hW4]; go_simp
  have p6 : W4.cell? ⟨W3.heap.size, 6, none⟩ = some (.int .i64 1) := by rw [hW4]; go_simp
  have p7 : W4.cell? ⟨W3.heap.size, 7, none⟩ = some (.int .i64 (-1)) := by rw [hW4]; go_simp
  have p8 : W4.cell? ⟨W3.heap.size, 8, none⟩ = some (.int .i64 (-1)) := by rw [hW4]; go_simp
  have HCQ : Hid (W4.cell? ⟨gq, oq, none⟩ = some (.int .i64 3)) := by rw [hW4]; exact ((From.refl W3).alloc _).cell hcq
  have HF4 := Lib.hid (HF2.out.trans f24)
  have HF24 := Lib.hid f24
  have HWA := Lib.hid fun w => waits_any 1 w
  have hw1 : waitsB 1 = true := by decide
  rw [hw1] at HWA
  clear hcq hb f24 hw1
  go_wp2_with fail
  rw [← hW4]
  clear hW4
  refine (HWA.out _).mono ?_
  rintro e W5 ⟨rfl, rfl⟩
  go_wp2_with fail
  refine (HVI.out _ HF4.out).mono ?_
  rintro e W5 ⟨av, cv, rfl, f5⟩
  have m0 := f5.cell m0
  have p0 := f5.cell p0
  have p1 := f5.cell p1
  have p2 := f5.cell p2
  have p3 := f5.cell p3
  have p4 := f5.cell p4
  have p5 := f5.cell p5
  have p6 := f5.cell p6
  have p7 := f5.cell p7
  have p8 := f5.cell p8
  have HF5 := Lib.hid (HF4.out.trans f5)
  have HCQ := Lib.hid (f5.cell HCQ.out)
  have HF25 := Lib.hid (HF24.out.trans f5)
  clear f5
  have HFS : Hid (∀ X, From W5 X → Calls Tryz.prog 25 #[.pointer (some ⟨b + 6, 0, none⟩), pod1V gq oq cq] X fun e w' => e = .returned (.tuple #[.int .i64 7, .bool true]) ∧ Below X.heap.size X w') := fun X f => first_any b gq oq cq X (HCF.out.below ((HF25.out.trans f).out)) (f.cell HCQ.out)
  go_wp2_with fail
  refine (HFS.out _ (From.refl W5)).mono ?_
  rintro e W6 ⟨rfl, hb⟩
  obtain ⟨W7, hW7⟩ : ∃ W7, W7 = (W6.alloc (.cells #[.int .i64 7] 3)).alloc (.cells #[.bool true] 4) := ⟨_, rfl⟩
  have f67 : From W6 W7 := by rw [hW7]; exact ((From.refl W6).alloc _).alloc _
  have r0 : W7.cell? ⟨W6.heap.size, 0, none⟩ = some (.int .i64 7) := by rw [hW7]; go_simp
  have r1 : W7.cell? ⟨W6.heap.size + 1, 0, none⟩ = some (.bool true) := by rw [hW7]; go_simp
  have HF7 := Lib.hid ((HF5.out.step hb).trans f67)
  clear hb f67
  go_wp2_with fail
  rw [← hW7]
  clear hW7
  refine (HFI.out _ HF7.out).mono ?_
  rintro e W8 ⟨rfl, f8⟩
  have r0 := f8.cell r0
  have r1 := f8.cell r1
  have HF8 := Lib.hid (HF7.out.trans f8)
  obtain ⟨W9, hW9⟩ : ∃ W9, W9 = (W8.alloc (.cells #[.int .i64 0, .int .i64 0, .int .i64 0, .int .i64 0] 26)).alloc (.cells #[.bool false] 4) := ⟨_, rfl⟩
  have f89 : From W8 W9 := by rw [hW9]; exact ((From.refl W8).alloc _).alloc _
  have r0 := f89.cell r0
  have r1 := f89.cell r1
  have r2 : W9.cell? ⟨W8.heap.size, 2, none⟩ = some (.int .i64 0) := by rw [hW9]; go_simp
  have r3 : W9.cell? ⟨W8.heap.size + 1, 0, none⟩ = some (.bool false) := by rw [hW9]; go_simp
  have HF9 := Lib.hid (HF8.out.trans f89)
  have HVC := Lib.hid (vclos_any (W6.heap.size + 1) (W8.heap.size + 1) W8.heap.size W6.heap.size W1.heap.size W3.heap.size false 0 W9 r1 r3 r2 r0 (by decide))
  clear f8 f89
  go_wp2_with fail
  rw [← hW9]
  clear hW9
  refine HVC.out.mono ?_
  rintro e W10 ⟨rfl, rfl⟩
  go_wp2
  go_ret
  exact ⟨rfl, HF9.out⟩
set_option maxHeartbeats 4000000 in
set_option maxRecDepth 100000 in
theorem verdictD (w : World) (bn bp bc br ba : Nat) (s : ByteArray) (hs : s.toList.isEmpty = false) (h : AwV w bn bp bc br ba) (hn : w.cell? ⟨2, 1, none⟩ = some (.string s)) (gd : Nat) (hd : DecCells w gd 0 ⟨5, 1, 7, 0⟩) :
    Calls Tryz.prog 14 #[awView bn bp ba, .int .i64 1, .slice (some ⟨gd, 0, none⟩) 1 1] w fun e w' => e = .returned (.int .i64 0) ∧ From w w' := by
  have HCL : Hid (∀ X, From w X → Calls Tryz.prog 13 #[awView bn bp ba] X fun e w' => ∃ b, e = .returned (.tuple #[.pointer (some ⟨b + 6, 0, none⟩), .bool true]) ∧ ClF w' b ∧ X.heap.size ≤ b ∧ Below X.heap.size X w') := fun X f => cluster1_any X bn bp bc br ba s hs (h.below f.out) (f.cell hn)
  have HVI : Hid (∀ X, From w X → Calls Tryz.prog 9 #[.slice (some ⟨gd, 0, none⟩) 1 1] X fun e w' => ∃ a cp, e = .returned (.slice a 0 cp) ∧ From X w') := fun X f => by
    refine (victims_any _ [⟨5, 1, 7, 0⟩] X (dec_row (hd.from_ f)) (by simp)).mono ?_
    rintro e w' ⟨a, cp, rfl, ho, hb⟩
    have hv : victimsD [⟨5, 1, 7, 0⟩] = [] := by decide
    rw [hv] at ho ⊢
    exact ⟨a, cp, rfl, ⟨hb⟩⟩
  have HFI : Hid (∀ X, From w X → Calls Tryz.prog 6 #[.slice (some ⟨gd, 0, none⟩) 1 1, .int .i64 5, .int .i64 1] X fun e w' => e = .returned (.tuple #[.agg #[.int .i64 5, .int .i64 1, .int .i64 7, .int .i64 0], .bool true]) ∧ From X w') := fun X f => by
    refine (jfind_any _ [⟨5, 1, 7, 0⟩] 5 1 X (dec_row (hd.from_ f)) (by simp)).mono ?_
    rintro e w' ⟨⟨d, rfl, hneg, hpos⟩, hb⟩
    have hv : findD 5 1 [⟨5, 1, 7, 0⟩] = ((0 : Nat) : Int) := by decide
    obtain ⟨rfl, -⟩ := hpos 0 hv
    rw [hv]
    exact ⟨rfl, ⟨hb⟩⟩
  clear h hn hd
  obtain ⟨W0, hW0⟩ : ∃ W0, W0 = w.alloc (.cells #[.int .i64 1, .slice (some ⟨bn, 0, none⟩) 1 1, .slice (some ⟨bp, 0, none⟩) 1 1, .slice (some ⟨ba, 0, none⟩) 1 1, .slice none 0 0] 43) := ⟨_, rfl⟩
  have F0 : From w W0 := by rw [hW0]; exact (From.refl w).alloc _
  go_enter Tryz.func14, Tryz.ntmps14
  go_wp2_with fail
  rw [← hW0]
  clear hW0
  refine (HCL.out _ F0).mono ?_
  rintro e W1 ⟨b, rfl, hcl, hlb, hb⟩
  obtain ⟨W2, hW2⟩ : ∃ W2, W2 = W1.alloc (.cells #[.pointer (some ⟨b + 6, 0, none⟩)] 44) := ⟨_, rfl⟩
  have f12 : From W1 W2 := by rw [hW2]; exact (From.refl W1).alloc _
  have HCF : Hid (ClF W2 b) := hcl.below f12.out
  have m0 : W2.cell? ⟨W1.heap.size, 0, none⟩ = some (.pointer (some ⟨b + 6, 0, none⟩)) := by rw [hW2]; go_simp
  have HF2 := Lib.hid ((F0.step hb).trans f12)
  have hl2 := cell_lt m0
  have HP1 := Lib.hid (fun X (f : From W2 X) => cpod1_any b X (HCF.out.below f.out))
  have HP2 := Lib.hid (fun X (f : From W2 X) => cpod2_any b X (HCF.out.below f.out))
  clear hcl hb F0 f12
  go_wp2_with fail
  rw [← hW2]
  clear hW2
  refine (HP1.out _ (From.refl W2)).mono ?_
  rintro e W3 ⟨gq, oq, cq, rfl, hcq, hlq, hb⟩
  obtain ⟨W4, hW4⟩ : ∃ W4, W4 = W3.alloc (.cells #[.int .i64 1, .int .i64 0, .bool false, .int .i64 0, .slice (some ⟨gq, oq, none⟩) 1 cq, .int .i64 0, .int .i64 1, .int .i64 (-1), .int .i64 (-1)] 40) := ⟨_, rfl⟩
  have f24 : From W2 W4 := by rw [hW4]; exact (From.mk hb).alloc _
  have m0 := f24.cell m0
  have p0 : W4.cell? ⟨W3.heap.size, 0, none⟩ = some (.int .i64 1) := by rw [hW4]; go_simp
  have p1 : W4.cell? ⟨W3.heap.size, 1, none⟩ = some (.int .i64 0) := by rw [hW4]; go_simp
  have p2 : W4.cell? ⟨W3.heap.size, 2, none⟩ = some (.bool false) := by rw [hW4]; go_simp
  have p3 : W4.cell? ⟨W3.heap.size, 3, none⟩ = some (.int .i64 0) := by rw [hW4]; go_simp
  have p4 : W4.cell? ⟨W3.heap.size, 4, none⟩ = some (.slice (some ⟨gq, oq, none⟩) 1 cq) := by rw [hW4]; go_simp
  have p5 : W4.cell? ⟨W3.heap.size, 5, none⟩ = some (.int .i64 0) := by rw [hW4]; go_simp
  have p6 : W4.cell? ⟨W3.heap.size, 6, none⟩ = some (.int .i64 1) := by rw [hW4]; go_simp
  have p7 : W4.cell? ⟨W3.heap.size, 7, none⟩ = some (.int .i64 (-1)) := by rw [hW4]; go_simp
  have p8 : W4.cell? ⟨W3.heap.size, 8, none⟩ = some (.int .i64 (-1)) := by rw [hW4]; go_simp
  have HCQ : Hid (W4.cell? ⟨gq, oq, none⟩ = some (.int .i64 3)) := by rw [hW4]; exact ((From.refl W3).alloc _).cell hcq
  have HF4 := Lib.hid (HF2.out.trans f24)
  have HF24 := Lib.hid f24
  have HWA := Lib.hid fun w => waits_any 1 w
  have hw1 : waitsB 1 = true := by decide
  rw [hw1] at HWA
  clear hcq hb f24 hw1
  go_wp2_with fail
  rw [← hW4]
  clear hW4
  refine (HWA.out _).mono ?_
  rintro e W5 ⟨rfl, rfl⟩
  go_wp2_with fail
  refine (HVI.out _ HF4.out).mono ?_
  rintro e W5 ⟨av, cv, rfl, f5⟩
  have m0 := f5.cell m0
  have p0 := f5.cell p0
  have p1 := f5.cell p1
  have p2 := f5.cell p2
  have p3 := f5.cell p3
  have p4 := f5.cell p4
  have p5 := f5.cell p5
  have p6 := f5.cell p6
  have p7 := f5.cell p7
  have p8 := f5.cell p8
  have HF5 := Lib.hid (HF4.out.trans f5)
  have HCQ := Lib.hid (f5.cell HCQ.out)
  have HF25 := Lib.hid (HF24.out.trans f5)
  clear f5
  have HFS : Hid (∀ X, From W5 X → Calls Tryz.prog 25 #[.pointer (some ⟨b + 6, 0, none⟩), pod1V gq oq cq] X fun e w' => e = .returned (.tuple #[.int .i64 7, .bool true]) ∧ Below X.heap.size X w') := fun X f => first_any b gq oq cq X (HCF.out.below ((HF25.out.trans f).out)) (f.cell HCQ.out)
  go_wp2_with fail
  refine (HFS.out _ (From.refl W5)).mono ?_
  rintro e W6 ⟨rfl, hb⟩
  obtain ⟨W7, hW7⟩ : ∃ W7, W7 = (W6.alloc (.cells #[.int .i64 7] 3)).alloc (.cells #[.bool true] 4) := ⟨_, rfl⟩
  have f67 : From W6 W7 := by rw [hW7]; exact ((From.refl W6).alloc _).alloc _
  have r0 : W7.cell? ⟨W6.heap.size, 0, none⟩ = some (.int .i64 7) := by rw [hW7]; go_simp
  have r1 : W7.cell? ⟨W6.heap.size + 1, 0, none⟩ = some (.bool true) := by rw [hW7]; go_simp
  have HF7 := Lib.hid ((HF5.out.step hb).trans f67)
  clear hb f67
  go_wp2_with fail
  rw [← hW7]
  clear hW7
  refine (HFI.out _ HF7.out).mono ?_
  rintro e W8 ⟨rfl, f8⟩
  have r0 := f8.cell r0
  have r1 := f8.cell r1
  have HF8 := Lib.hid (HF7.out.trans f8)
  obtain ⟨W9, hW9⟩ : ∃ W9, W9 = (W8.alloc (.cells #[.int .i64 5, .int .i64 1, .int .i64 7, .int .i64 0] 26)).alloc (.cells #[.bool true] 4) := ⟨_, rfl⟩
  have f89 : From W8 W9 := by rw [hW9]; exact ((From.refl W8).alloc _).alloc _
  have r0 := f89.cell r0
  have r1 := f89.cell r1
  have r2 : W9.cell? ⟨W8.heap.size, 2, none⟩ = some (.int .i64 7) := by rw [hW9]; go_simp
  have r3 : W9.cell? ⟨W8.heap.size + 1, 0, none⟩ = some (.bool true) := by rw [hW9]; go_simp
  have HF9 := Lib.hid (HF8.out.trans f89)
  have HVC := Lib.hid (vclos_any (W6.heap.size + 1) (W8.heap.size + 1) W8.heap.size W6.heap.size W1.heap.size W3.heap.size true 7 W9 r1 r3 r2 r0 (by decide))
  clear f8 f89
  go_wp2_with fail
  rw [← hW9]
  clear hW9
  refine HVC.out.mono ?_
  rintro e W10 ⟨rfl, rfl⟩
  go_wp2
  go_ret
  exact ⟨rfl, HF9.out⟩
end Go.Proofs.YtllipidegjpidaaGreatDoor
