/- audit.pods of the view of awake, with closures that find nothing. -/
import Derived.Test.YtkdmjpakpmnhgaaGreatDoorAuS
namespace Go.Proofs.YtkdmjpakpmnhgaaGreatDoor
set_option linter.all false
open Go.RowKit

/-- The pods of awake. -/
abbrev awPod (br : Nat) (i : Int) : Value := .agg #[.int .i64 i, .int .i64 0, .bool false, .int .i64 0, .slice (some ⟨br, 0, none⟩) 1 1, .int .i64 0, .int .i64 3, .int .i64 7, .int .i64 (-1)]
set_option maxHeartbeats 1000000 in
set_option maxRecDepth 100000 in
theorem pods0_ph (g : Nat) (w : World) : Calls Tryz.prog 46 #[noView, .func (Fn.func 47) #[] #[.pointer (some ⟨g, 0, none⟩)]] w fun e w' => e = .returned (.slice none 0 0) ∧ From w w' := by
  go_enter Tryz.func46, Tryz.ntmps46
  go_wp2
  refine wp_loop_rounds 1 ?_
  rw [rounds_succ]
  go_wp2
  go_ret
  exact ⟨rfl, (From.refl w).alloc _⟩
set_option maxHeartbeats 1000000 in
set_option maxRecDepth 100000 in
theorem pods1_ph (g : Nat) (I : Nat → World → Prop) (w : World) (bn bp bc br : Nat) (h : I 0 w) (hF : ∀ i X X', From X X' → I i X → I i X')
    (hA : ∀ i X, I i X → AwV X bn bp bc br)
    (hc1 : ∀ X, I 0 X → Calls Tryz.prog 47 #[awPod br 1, .pointer (some ⟨g, 0, none⟩)] X fun e X' => e = .returned (.bool false) ∧ I 1 X')
    (hc2 : ∀ X, I 1 X → Calls Tryz.prog 47 #[awPod br 2, .pointer (some ⟨g, 0, none⟩)] X fun e X' => e = .returned (.bool false) ∧ I 2 X') :
    Calls Tryz.prog 46 #[awView bn bp, .func (Fn.func 47) #[] #[.pointer (some ⟨g, 0, none⟩)]] w fun e w' => e = .returned (.slice none 0 0) ∧ I 2 w' := by
  have HF := Lib.hid hF
  have HA := Lib.hid hA
  have H1 := Lib.hid hc1
  have H2 := Lib.hid hc2
  have H0 := Lib.hid h
  clear hF hA hc1 hc2 h
  go_enter Tryz.func46, Tryz.ntmps46
  go_wp2
  refine wp_loop_rounds 3 ?_
  refine rounds_named fun W1 hW1 => ?_
  have HI := Lib.hid (HF.out 0 w W1 (by rw [hW1]; exact (From.refl w).alloc _) H0.out)
  clear hW1 H0
  obtain ⟨n0, n1, k0, r0, p0, p1, p2, p3, p4, p5, p6, p7, p8, q0, q1, q2, q3, q4, q5, q6, q7, q8⟩ := HA.out _ _ HI.out
  rw [rounds_succ]
  go_wp2_with fail
  refine calls_named fun X1 hX1 => ?_
  have HJ := Lib.hid (HF.out 0 W1 X1 (by rw [hX1]; exact (From.refl _).alloc _) HI.out)
  clear hX1 HI n0 n1 k0 r0 p0 p1 p2 p3 p4 p5 p6 p7 p8 q0 q1 q2 q3 q4 q5 q6 q7 q8
  refine (H1.out _ HJ.out).mono ?_
  rintro e W2 ⟨rfl, hI⟩
  have HI := Lib.hid hI
  clear hI HJ
  go_wp2
  obtain ⟨n0, n1, k0, r0, p0, p1, p2, p3, p4, p5, p6, p7, p8, q0, q1, q2, q3, q4, q5, q6, q7, q8⟩ := HA.out _ _ HI.out
  rw [rounds_succ]
  go_wp2_with fail
  refine calls_named fun X2 hX2 => ?_
  have HJ := Lib.hid (HF.out 1 W2 X2 (by rw [hX2]; exact (From.refl _).alloc _) HI.out)
  clear hX2 HI n0 n1 k0 r0 p0 p1 p2 p3 p4 p5 p6 p7 p8 q0 q1 q2 q3 q4 q5 q6 q7 q8
  refine (H2.out _ HJ.out).mono ?_
  rintro e W3 ⟨rfl, hI⟩
  have HI := Lib.hid hI
  clear hI HJ
  go_wp2
  rw [rounds_succ]
  go_wp2
  go_ret
  exact ⟨rfl, HI.out⟩
set_option maxHeartbeats 1000000 in
set_option maxRecDepth 100000 in
theorem pods0_pl (g : Nat) (w : World) : Calls Tryz.prog 46 #[noView, .func (Fn.func 49) #[] #[.pointer (some ⟨g, 0, none⟩)]] w fun e w' => e = .returned (.slice none 0 0) ∧ From w w' := by
  go_enter Tryz.func46, Tryz.ntmps46
  go_wp2
  refine wp_loop_rounds 1 ?_
  rw [rounds_succ]
  go_wp2
  go_ret
  exact ⟨rfl, (From.refl w).alloc _⟩
set_option maxHeartbeats 1000000 in
set_option maxRecDepth 100000 in
theorem pods1_pl (g : Nat) (I : Nat → World → Prop) (w : World) (bn bp bc br : Nat) (h : I 0 w) (hF : ∀ i X X', From X X' → I i X → I i X')
    (hA : ∀ i X, I i X → AwV X bn bp bc br)
    (hc1 : ∀ X, I 0 X → Calls Tryz.prog 49 #[awPod br 1, .pointer (some ⟨g, 0, none⟩)] X fun e X' => e = .returned (.bool false) ∧ I 1 X')
    (hc2 : ∀ X, I 1 X → Calls Tryz.prog 49 #[awPod br 2, .pointer (some ⟨g, 0, none⟩)] X fun e X' => e = .returned (.bool false) ∧ I 2 X') :
    Calls Tryz.prog 46 #[awView bn bp, .func (Fn.func 49) #[] #[.pointer (some ⟨g, 0, none⟩)]] w fun e w' => e = .returned (.slice none 0 0) ∧ I 2 w' := by
  have HF := Lib.hid hF
  have HA := Lib.hid hA
  have H1 := Lib.hid hc1
  have H2 := Lib.hid hc2
  have H0 := Lib.hid h
  clear hF hA hc1 hc2 h
  go_enter Tryz.func46, Tryz.ntmps46
  go_wp2
  refine wp_loop_rounds 3 ?_
  refine rounds_named fun W1 hW1 => ?_
  have HI := Lib.hid (HF.out 0 w W1 (by rw [hW1]; exact (From.refl w).alloc _) H0.out)
  clear hW1 H0
  obtain ⟨n0, n1, k0, r0, p0, p1, p2, p3, p4, p5, p6, p7, p8, q0, q1, q2, q3, q4, q5, q6, q7, q8⟩ := HA.out _ _ HI.out
  rw [rounds_succ]
  go_wp2_with fail
  refine calls_named fun X1 hX1 => ?_
  have HJ := Lib.hid (HF.out 0 W1 X1 (by rw [hX1]; exact (From.refl _).alloc _) HI.out)
  clear hX1 HI n0 n1 k0 r0 p0 p1 p2 p3 p4 p5 p6 p7 p8 q0 q1 q2 q3 q4 q5 q6 q7 q8
  refine (H1.out _ HJ.out).mono ?_
  rintro e W2 ⟨rfl, hI⟩
  have HI := Lib.hid hI
  clear hI HJ
  go_wp2
  obtain ⟨n0, n1, k0, r0, p0, p1, p2, p3, p4, p5, p6, p7, p8, q0, q1, q2, q3, q4, q5, q6, q7, q8⟩ := HA.out _ _ HI.out
  rw [rounds_succ]
  go_wp2_with fail
  refine calls_named fun X2 hX2 => ?_
  have HJ := Lib.hid (HF.out 1 W2 X2 (by rw [hX2]; exact (From.refl _).alloc _) HI.out)
  clear hX2 HI n0 n1 k0 r0 p0 p1 p2 p3 p4 p5 p6 p7 p8 q0 q1 q2 q3 q4 q5 q6 q7 q8
  refine (H2.out _ HJ.out).mono ?_
  rintro e W3 ⟨rfl, hI⟩
  have HI := Lib.hid hI
  clear hI HJ
  go_wp2
  rw [rounds_succ]
  go_wp2
  go_ret
  exact ⟨rfl, HI.out⟩
set_option maxHeartbeats 1000000 in
set_option maxRecDepth 100000 in
theorem pods0_li (g g2 : Nat) (w : World) : Calls Tryz.prog 46 #[noView, .func (Fn.func 50) #[] #[.pointer (some ⟨g, 0, none⟩), .pointer (some ⟨g2, 0, none⟩)]] w fun e w' => e = .returned (.slice none 0 0) ∧ From w w' := by
  go_enter Tryz.func46, Tryz.ntmps46
  go_wp2
  refine wp_loop_rounds 1 ?_
  rw [rounds_succ]
  go_wp2
  go_ret
  exact ⟨rfl, (From.refl w).alloc _⟩
set_option maxHeartbeats 1000000 in
set_option maxRecDepth 100000 in
theorem pods1_li (g g2 : Nat) (I : Nat → World → Prop) (w : World) (bn bp bc br : Nat) (h : I 0 w) (hF : ∀ i X X', From X X' → I i X → I i X')
    (hA : ∀ i X, I i X → AwV X bn bp bc br)
    (hc1 : ∀ X, I 0 X → Calls Tryz.prog 50 #[awPod br 1, .pointer (some ⟨g, 0, none⟩), .pointer (some ⟨g2, 0, none⟩)] X fun e X' => e = .returned (.bool false) ∧ I 1 X')
    (hc2 : ∀ X, I 1 X → Calls Tryz.prog 50 #[awPod br 2, .pointer (some ⟨g, 0, none⟩), .pointer (some ⟨g2, 0, none⟩)] X fun e X' => e = .returned (.bool false) ∧ I 2 X') :
    Calls Tryz.prog 46 #[awView bn bp, .func (Fn.func 50) #[] #[.pointer (some ⟨g, 0, none⟩), .pointer (some ⟨g2, 0, none⟩)]] w fun e w' => e = .returned (.slice none 0 0) ∧ I 2 w' := by
  have HF := Lib.hid hF
  have HA := Lib.hid hA
  have H1 := Lib.hid hc1
  have H2 := Lib.hid hc2
  have H0 := Lib.hid h
  clear hF hA hc1 hc2 h
  go_enter Tryz.func46, Tryz.ntmps46
  go_wp2
  refine wp_loop_rounds 3 ?_
  refine rounds_named fun W1 hW1 => ?_
  have HI := Lib.hid (HF.out 0 w W1 (by rw [hW1]; exact (From.refl w).alloc _) H0.out)
  clear hW1 H0
  obtain ⟨n0, n1, k0, r0, p0, p1, p2, p3, p4, p5, p6, p7, p8, q0, q1, q2, q3, q4, q5, q6, q7, q8⟩ := HA.out _ _ HI.out
  rw [rounds_succ]
  go_wp2_with fail
  refine calls_named fun X1 hX1 => ?_
  have HJ := Lib.hid (HF.out 0 W1 X1 (by rw [hX1]; exact (From.refl _).alloc _) HI.out)
  clear hX1 HI n0 n1 k0 r0 p0 p1 p2 p3 p4 p5 p6 p7 p8 q0 q1 q2 q3 q4 q5 q6 q7 q8
  refine (H1.out _ HJ.out).mono ?_
  rintro e W2 ⟨rfl, hI⟩
  have HI := Lib.hid hI
  clear hI HJ
  go_wp2
  obtain ⟨n0, n1, k0, r0, p0, p1, p2, p3, p4, p5, p6, p7, p8, q0, q1, q2, q3, q4, q5, q6, q7, q8⟩ := HA.out _ _ HI.out
  rw [rounds_succ]
  go_wp2_with fail
  refine calls_named fun X2 hX2 => ?_
  have HJ := Lib.hid (HF.out 1 W2 X2 (by rw [hX2]; exact (From.refl _).alloc _) HI.out)
  clear hX2 HI n0 n1 k0 r0 p0 p1 p2 p3 p4 p5 p6 p7 p8 q0 q1 q2 q3 q4 q5 q6 q7 q8
  refine (H2.out _ HJ.out).mono ?_
  rintro e W3 ⟨rfl, hI⟩
  have HI := Lib.hid hI
  clear hI HJ
  go_wp2
  rw [rounds_succ]
  go_wp2
  go_ret
  exact ⟨rfl, HI.out⟩
end Go.Proofs.YtkdmjpakpmnhgaaGreatDoor
