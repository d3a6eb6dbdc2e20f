/- hammocklaw27.awake. -/
import Derived.Test.YtllipidegjpidaaGreatDoorKB
namespace Go.Proofs.YtllipidegjpidaaGreatDoor
set_option linter.all false
open Go.RowKit

theorem eqlRight (w : World) : (binOp .eql 9 (.string ⟨#[114, 105, 103, 104, 116]⟩) (.string ⟨#[114, 105, 103, 104, 116]⟩)).run Tryz.prog w = .ok (.bool true) w := by kernel_rfl
set_option maxHeartbeats 8000000 in
set_option maxRecDepth 100000 in
theorem awake27_any (w : World) (s : ByteArray) (hs : s.toList.isEmpty = false) (hn : w.cell? ⟨2, 1, none⟩ = some (.string s)) (hv : VNamesAt w) : Calls Tryz.prog 4 #[] w fun e w' => e = .returned (.bool true) ∧ From w w' := by
  have HCL : Hid (∀ X bn bp bc br ba, From w X → AwV X bn bp bc br ba → Calls Tryz.prog 13 #[awView bn bp ba] X fun e w' => ∃ b, e = .returned (.tuple #[.pointer (some ⟨b + 6, 0, none⟩), .bool true]) ∧ From X w') := fun X bn bp bc br ba f h => (cluster1_any X bn bp bc br ba s hs h (f.cell hn)).mono fun e w' ⟨b, he, _, _, hb⟩ => ⟨b, he, ⟨hb⟩⟩
  have HC0 := Lib.hid cluster0_any
  have HVA : Hid (∀ X bn bp bc br ba gd, From w X → AwV X bn bp bc br ba → DecCells X gd 0 ⟨6, 2, 7, 0⟩ → Calls Tryz.prog 14 #[awView bn bp ba, .int .i64 1, .slice (some ⟨gd, 0, none⟩) 1 1] X fun e w' => e = .returned (.int .i64 2) ∧ From X w') := fun X bn bp bc br ba gd f h hd => verdictA X bn bp bc br ba s hs h (f.cell hn) gd hd
  have HVB : Hid (∀ X bn bp bc br ba, From w X → AwV X bn bp bc br ba → Calls Tryz.prog 14 #[awView bn bp ba, .int .i64 2, .slice none 0 0] X fun e w' => e = .returned (.int .i64 1) ∧ From X w') := fun X bn bp bc br ba f h => verdictB X bn bp bc br ba s hs h (f.cell hn)
  have HVC : Hid (∀ X bn bp bc br ba, From w X → AwV X bn bp bc br ba → Calls Tryz.prog 14 #[awView bn bp ba, .int .i64 1, .slice none 0 0] X fun e w' => e = .returned (.int .i64 8) ∧ From X w') := fun X bn bp bc br ba f h => verdictC X bn bp bc br ba s hs h (f.cell hn)
  have HVD : Hid (∀ X bn bp bc br ba gd, From w X → AwV X bn bp bc br ba → DecCells X gd 0 ⟨5, 1, 7, 0⟩ → Calls Tryz.prog 14 #[awView bn bp ba, .int .i64 1, .slice (some ⟨gd, 0, none⟩) 1 1] X fun e w' => e = .returned (.int .i64 0) ∧ From X w') := fun X bn bp bc br ba gd f h hd => verdictD X bn bp bc br ba s hs h (f.cell hn) gd hd
  have HFI : Hid (∀ X gd, DecCells X gd 0 ⟨6, 2, 7, 0⟩ → Calls Tryz.prog 6 #[.slice (some ⟨gd, 0, none⟩) 1 1, .int .i64 6, .int .i64 2] X fun e w' => e = .returned (.tuple #[.agg #[.int .i64 6, .int .i64 2, .int .i64 7, .int .i64 0], .bool true]) ∧ From X w') := fun X gd hd => by
    refine (jfind_any _ [⟨6, 2, 7, 0⟩] 6 2 X (dec_row hd) (by simp)).mono ?_
    rintro e w' ⟨⟨d, rfl, hneg, hpos⟩, hb⟩
    have hv : findD 6 2 [⟨6, 2, 7, 0⟩] = ((0 : Nat) : Int) := by decide
    obtain ⟨rfl, -⟩ := hpos 0 hv
    rw [hv]
    exact ⟨rfl, ⟨hb⟩⟩
  have HVI : Hid (∀ X gd, DecCells X gd 0 ⟨6, 2, 7, 0⟩ → Calls Tryz.prog 9 #[.slice (some ⟨gd, 0, none⟩) 1 1] X fun e w' => ∃ g o cp, e = .returned (.slice (some ⟨g, o, none⟩) 1 cp) ∧ w'.cell? ⟨g, o, none⟩ = some (.int .i64 2) ∧ From X w') := fun X gd hd => by
    refine (victims_any _ [⟨6, 2, 7, 0⟩] X (dec_row hd) (by simp)).mono ?_
    rintro e w' ⟨a, cp, rfl, ho, hb⟩
    have hv : victimsD [⟨6, 2, 7, 0⟩] = [2] := by decide
    rw [hv] at ho ⊢
    obtain ⟨g, o, rfl, hc⟩ := victims_one ho
    exact ⟨g, o, cp, rfl, hc, ⟨hb⟩⟩
  have HEQ : Hid (∀ X g o cp g' o' cp', X.cell? ⟨g, o, none⟩ = some (.int .i64 2) → X.cell? ⟨g', o', none⟩ = some (.int .i64 2) → Calls Tryz.prog 8 #[.slice (some ⟨g, o, none⟩) 1 cp, .slice (some ⟨g', o', none⟩) 1 cp'] X fun e w' => e = .returned (.bool true) ∧ From X w') := fun X g o cp g' o' cp' h1 h2 =>
    (equal_any _ _ [2] X (ints_one h1) (ints_one h2) (by simp)).mono fun e w' ⟨he, hb⟩ => ⟨he, ⟨hb⟩⟩
  have HNA : Hid (∀ X, From w X → Calls Tryz.prog 11 #[.int .i64 0] X fun e w' => e = .returned (.string ⟨#[114, 105, 103, 104, 116]⟩) ∧ X = w') := fun X f => by
    have h := jname_any 0 X (fun i hi => f.cell (hv i hi))
    have e : verdictName 0 = ⟨#[114, 105, 103, 104, 116]⟩ := by rfl
    rw [e] at h
    exact h
  have hq5 := eqlRight
  clear hn hv
  go_enter Tryz.func4, Tryz.ntmps4
  go_wp2_with fail
  refine calls_named fun X hX => ?_
  have F0 : From w X := by rw [hX]; exact ((((((From.refl w).alloc _).alloc _).alloc _).alloc _).alloc _).alloc _
  have HV : Hid (AwV X (w.heap.size + 1) (w.heap.size + 1 + 1 + 1) (w.heap.size) (w.heap.size + 1 + 1) (w.heap.size + 1 + 1 + 1 + 1)) := by
    rw [hX]
    exact ⟨by go_simp, by go_simp, by go_simp, by go_simp, by go_simp, by go_simp, by go_simp, by go_simp, by go_simp, by go_simp, by go_simp, by go_simp, by go_simp, by go_simp⟩
  have e0 : X.cell? ⟨w.heap.size + 1 + 1 + 1 + 1 + 1, 0, none⟩ = some (.int .i64 1) := by rw [hX]; go_simp
  have e1 : X.cell? ⟨w.heap.size + 1 + 1 + 1 + 1 + 1, 1, none⟩ = some (.slice (some ⟨w.heap.size + 1, 0, none⟩) 1 1) := by rw [hX]; go_simp
  have e2 : X.cell? ⟨w.heap.size + 1 + 1 + 1 + 1 + 1, 2, none⟩ = some (.slice (some ⟨w.heap.size + 1 + 1 + 1, 0, none⟩) 1 1) := by rw [hX]; go_simp
  have e3 : X.cell? ⟨w.heap.size + 1 + 1 + 1 + 1 + 1, 3, none⟩ = some (.slice (some ⟨w.heap.size + 1 + 1 + 1 + 1, 0, none⟩) 1 1) := by rw [hX]; go_simp
  have e4 : X.cell? ⟨w.heap.size + 1 + 1 + 1 + 1 + 1, 4, none⟩ = some (.slice none 0 0) := by rw [hX]; go_simp
  clear hX
  have HF := Lib.hid F0
  clear F0
  generalize w.heap.size + 1 + 1 + 1 + 1 + 1 = bv at *
  generalize w.heap.size + 1 + 1 + 1 + 1 = ba at *
  generalize w.heap.size + 1 + 1 + 1 = bp at *
  generalize w.heap.size + 1 + 1 = br at *
  generalize w.heap.size + 1 = bn at *
  refine (HCL.out _ _ _ _ _ _ HF.out HV.out).mono ?_
  rintro e W1 ⟨b, rfl, f1⟩
  have e0 := f1.cell e0
  have e1 := f1.cell e1
  have e2 := f1.cell e2
  have e3 := f1.cell e3
  have e4 := f1.cell e4
  have HV := Lib.hid (HV.out.below f1.out)
  have HF := Lib.hid (HF.out.trans f1)
  clear f1
  go_wp2_with fail
  refine calls_named fun X1 hX1 => ?_
  have f2 : From W1 X1 := by rw [hX1]; exact (From.refl _).alloc _
  have h1 : X1.cell? ⟨W1.heap.size, 0, none⟩ = some (.int .i64 1) := by rw [hX1]; go_simp
  clear hX1
  have e0 := f2.cell e0
  have e1 := f2.cell e1
  have e2 := f2.cell e2
  have e3 := f2.cell e3
  have e4 := f2.cell e4
  have HV := Lib.hid (HV.out.below f2.out)
  have HF := Lib.hid (HF.out.trans f2)
  refine (HC0.out _ _ h1).mono ?_
  rintro e W2 ⟨rfl, f3⟩
  have e0 := f3.cell e0
  have e1 := f3.cell e1
  have e2 := f3.cell e2
  have e3 := f3.cell e3
  have e4 := f3.cell e4
  have HV := Lib.hid (HV.out.below f3.out)
  have HF := Lib.hid (HF.out.trans f3)
  clear f2 f3 h1
  go_wp2_with fail
  refine calls_named fun X2 hX2 => ?_
  have f4 : From W2 X2 := by rw [hX2]; exact (From.refl _).alloc _
  have HD : Hid (DecCells X2 W2.heap.size 0 ⟨6, 2, 7, 0⟩) := by rw [hX2]; exact ⟨by go_simp, by go_simp, by go_simp, by go_simp⟩
  clear hX2
  have e0 := f4.cell e0
  have e1 := f4.cell e1
  have e2 := f4.cell e2
  have e3 := f4.cell e3
  have e4 := f4.cell e4
  have HV := Lib.hid (HV.out.below f4.out)
  have HF := Lib.hid (HF.out.trans f4)
  generalize W2.heap.size = gd at *
  refine (HFI.out _ gd HD.out).mono ?_
  rintro e W3 ⟨rfl, f5⟩
  have e0 := f5.cell e0
  have e1 := f5.cell e1
  have e2 := f5.cell e2
  have e3 := f5.cell e3
  have e4 := f5.cell e4
  have HV := Lib.hid (HV.out.below f5.out)
  have HF := Lib.hid (HF.out.trans f5)
  have HD := Lib.hid (DecCells.from_ HD.out f5)
  clear f4 f5
  obtain ⟨W4, hW4⟩ : ∃ W4, W4 = W3.alloc (.cells #[.int .i64 6, .int .i64 2, .int .i64 7, .int .i64 0] 26) := ⟨_, rfl⟩
  have f6 : From W3 W4 := by rw [hW4]; exact (From.refl _).alloc _
  have k2 : W4.cell? ⟨W3.heap.size, 2, none⟩ = some (.int .i64 7) := by rw [hW4]; go_simp
  have hlv := cell_lt e0
  have x0 := f6.cell e0
  have x1 := f6.cell e1
  have x2 := f6.cell e2
  have x3 := f6.cell e3
  have x4 := f6.cell e4
  have HV := Lib.hid (HV.out.below f6.out)
  have HF := Lib.hid (HF.out.trans f6)
  have HD := Lib.hid (HD.out.from_ f6)
  have HW := Lib.hid hW4
  clear f6 hW4
  go_wp2_with fail
  rw [← HW.out]
  clear HW e0 e1 e2 e3 e4
  generalize W3.heap.size = g3 at *
  refine (HVA.out _ _ _ _ _ _ _ HF.out HV.out HD.out).mono ?_
  rintro e W5 ⟨rfl, f⟩
  have x0 := f.cell x0
  have x1 := f.cell x1
  have x2 := f.cell x2
  have x3 := f.cell x3
  have x4 := f.cell x4
  have k2 := f.cell k2
  have HV := Lib.hid (HV.out.below f.out)
  have HF := Lib.hid (HF.out.trans f)
  have HD := Lib.hid (HD.out.from_ f)
  clear f
  go_wp2_with fail
  refine (HVB.out _ _ _ _ _ _ HF.out HV.out).mono ?_
  rintro e W6 ⟨rfl, f⟩
  have x0 := f.cell x0
  have x1 := f.cell x1
  have x2 := f.cell x2
  have x3 := f.cell x3
  have x4 := f.cell x4
  have k2 := f.cell k2
  have HV := Lib.hid (HV.out.below f.out)
  have HF := Lib.hid (HF.out.trans f)
  have HD := Lib.hid (HD.out.from_ f)
  clear f
  go_wp2_with fail
  refine (HVC.out _ _ _ _ _ _ HF.out HV.out).mono ?_
  rintro e W7 ⟨rfl, f⟩
  have x0 := f.cell x0
  have x1 := f.cell x1
  have x2 := f.cell x2
  have x3 := f.cell x3
  have x4 := f.cell x4
  have k2 := f.cell k2
  have HV := Lib.hid (HV.out.below f.out)
  have HF := Lib.hid (HF.out.trans f)
  have HD := Lib.hid (HD.out.from_ f)
  clear f
  go_wp2_with fail
  refine calls_named fun X7 hX7 => ?_
  have f : From W7 X7 := by rw [hX7]; exact (From.refl _).alloc _
  have hd : DecCells X7 W7.heap.size 0 ⟨5, 1, 7, 0⟩ := by rw [hX7]; exact ⟨by go_simp, by go_simp, by go_simp, by go_simp⟩
  clear hX7
  have x0 := f.cell x0
  have x1 := f.cell x1
  have x2 := f.cell x2
  have x3 := f.cell x3
  have x4 := f.cell x4
  have k2 := f.cell k2
  have HV := Lib.hid (HV.out.below f.out)
  have HF := Lib.hid (HF.out.trans f)
  have HD := Lib.hid (HD.out.from_ f)
  clear f
  refine (HVD.out _ _ _ _ _ _ _ HF.out HV.out hd).mono ?_
  rintro e W8 ⟨rfl, f⟩
  have x0 := f.cell x0
  have x1 := f.cell x1
  have x2 := f.cell x2
  have x3 := f.cell x3
  have x4 := f.cell x4
  have k2 := f.cell k2
  have HV := Lib.hid (HV.out.below f.out)
  have HF := Lib.hid (HF.out.trans f)
  have HD := Lib.hid (HD.out.from_ f)
  clear f
  clear hd
  go_wp2_with fail
  refine (HVI.out _ _ HD.out).mono ?_
  rintro e W9 ⟨gv, ov, cv, rfl, hcv, f⟩
  have x0 := f.cell x0
  have x1 := f.cell x1
  have x2 := f.cell x2
  have x3 := f.cell x3
  have x4 := f.cell x4
  have k2 := f.cell k2
  have HV := Lib.hid (HV.out.below f.out)
  have HF := Lib.hid (HF.out.trans f)
  have HD := Lib.hid (HD.out.from_ f)
  clear f
  go_wp2_with fail
  refine calls_named fun X9 hX9 => ?_
  have f : From W9 X9 := by rw [hX9]; exact (From.refl _).alloc _
  have h2 : X9.cell? ⟨W9.heap.size, 0, none⟩ = some (.int .i64 2) := by rw [hX9]; go_simp
  clear hX9
  have hcv := f.cell hcv
  have x0 := f.cell x0
  have x1 := f.cell x1
  have x2 := f.cell x2
  have x3 := f.cell x3
  have x4 := f.cell x4
  have k2 := f.cell k2
  have HV := Lib.hid (HV.out.below f.out)
  have HF := Lib.hid (HF.out.trans f)
  have HD := Lib.hid (HD.out.from_ f)
  clear f
  refine (HEQ.out _ _ _ _ _ _ _ hcv h2).mono ?_
  rintro e W10 ⟨rfl, f⟩
  have x0 := f.cell x0
  have x1 := f.cell x1
  have x2 := f.cell x2
  have x3 := f.cell x3
  have x4 := f.cell x4
  have k2 := f.cell k2
  have HV := Lib.hid (HV.out.below f.out)
  have HF := Lib.hid (HF.out.trans f)
  have HD := Lib.hid (HD.out.from_ f)
  clear f
  clear hcv h2
  go_wp2_with fail
  refine (HNA.out _ HF.out).mono ?_
  rintro e W11 ⟨rfl, rfl⟩
  go_wp2
  go_ret
  exact ⟨rfl, HF.out⟩
end Go.Proofs.YtllipidegjpidaaGreatDoor
