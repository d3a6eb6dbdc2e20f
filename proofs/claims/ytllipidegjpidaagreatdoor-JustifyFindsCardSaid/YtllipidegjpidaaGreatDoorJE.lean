/- The views of awake; audit.twice and audit.pods of them; the closures. -/
import Derived.Test.YtllipidegjpidaaGreatDoorAuQ
import Derived.Test.YtllipidegjpidaaGreatDoorAuR
import Derived.Test.YtllipidegjpidaaGreatDoorAuO
import Derived.Test.YtllipidegjpidaaGreatDoorAuF
namespace Go.Proofs.YtllipidegjpidaaGreatDoor
set_option linter.all false
open Go.RowKit

/-- A loop goes on in a world that gets a name. -/
theorem rounds_named {P : Program} {c : Code} {Q : Exit → Act → World → Prop} {n : Nat} {a : Act} {X : World} (h : ∀ W, W = X → c.rounds P Q n a W) : c.rounds P Q n a X := h X rfl
/-- The view of awake as it lies in memory. -/
structure AwV (w : World) (bn bp bc br ba : Nat) : Prop where
  n0 : w.cell? ⟨bn, 0, none⟩ = some (.int .i64 7)
  n1 : w.cell? ⟨bn, 1, none⟩ = some (.slice (some ⟨bc, 0, none⟩) 1 1)
  k0 : w.cell? ⟨bc, 0, none⟩ = some (.int .i64 5)
  r0 : w.cell? ⟨br, 0, none⟩ = some (.int .i64 3)
  p0 : w.cell? ⟨bp, 0, none⟩ = some (.int .i64 1)
  p1 : w.cell? ⟨bp, 1, none⟩ = some (.int .i64 0)
  p2 : w.cell? ⟨bp, 2, none⟩ = some (.bool false)
  p3 : w.cell? ⟨bp, 3, none⟩ = some (.int .i64 0)
  p4 : w.cell? ⟨bp, 4, none⟩ = some (.slice (some ⟨br, 0, none⟩) 1 1)
  p5 : w.cell? ⟨bp, 5, none⟩ = some (.int .i64 0)
  p6 : w.cell? ⟨bp, 6, none⟩ = some (.int .i64 1)
  p7 : w.cell? ⟨bp, 7, none⟩ = some (.int .i64 (-1))
  p8 : w.cell? ⟨bp, 8, none⟩ = some (.int .i64 (-1))
  a0 : w.cell? ⟨ba, 0, none⟩ = some (.int .i64 1)
theorem AwV.below {w w' : World} {bn bp bc br ba : Nat} (h : AwV w bn bp bc br ba) (f : Below w.heap.size w w') : AwV w' bn bp bc br ba :=
  ⟨keepl f h.n0, keepl f h.n1, keepl f h.k0, keepl f h.r0, keepl f h.p0, keepl f h.p1, keepl f h.p2, keepl f h.p3, keepl f h.p4, keepl f h.p5, keepl f h.p6, keepl f h.p7, keepl f h.p8, keepl f h.a0⟩
abbrev awView (bn bp ba : Nat) : Value := viewV 1 (.slice (some ⟨bn, 0, none⟩) 1 1) (.slice (some ⟨bp, 0, none⟩) 1 1) (.slice (some ⟨ba, 0, none⟩) 1 1) (.slice none 0 0)
abbrev noView (ba : Nat) : Value := viewV 1 (.slice none 0 0) (.slice none 0 0) (.slice (some ⟨ba, 0, none⟩) 1 1) (.slice none 0 0)
/-- The pod of awake. -/
abbrev awPod (br : Nat) : Value := .agg #[.int .i64 1, .int .i64 0, .bool false, .int .i64 0, .slice (some ⟨br, 0, none⟩) 1 1, .int .i64 0, .int .i64 1, .int .i64 (-1), .int .i64 (-1)]
set_option maxHeartbeats 1000000 in
set_option maxRecDepth 100000 in
theorem twice0 (ba : Nat) (w : World) : Calls Tryz.prog 77 #[noView ba] w fun e w' => ∃ a c, e = .returned (.slice a 0 c) ∧ Below w.heap.size w w' := by
  have hmm := @run_makeMap Tryz.prog
  go_enter Tryz.func77, Tryz.ntmps77
  go_wp2
  refine wp_loop_rounds 1 ?_
  rw [rounds_succ]
  go_wp2
  refine wp_loop_rounds 1 ?_
  rw [rounds_succ]
  go_wp2
  go_ret
  exact ⟨_, _, rfl, ((((From.refl w).alloc _).alloc _).alloc _).out⟩
set_option maxHeartbeats 1000000 in
set_option maxRecDepth 100000 in
theorem twice1 (w : World) (bn bp bc br ba : Nat) (h : AwV w bn bp bc br ba) : Calls Tryz.prog 77 #[awView bn bp ba] w fun e w' => ∃ a c, e = .returned (.slice a 0 c) ∧ Below w.heap.size w w' := by
  have hmm := @run_makeMap Tryz.prog
  have HA := Lib.hid h
  clear h
  go_enter Tryz.func77, Tryz.ntmps77
  go_wp2
  refine wp_loop_rounds 2 ?_
  refine rounds_named fun W1 hW1 => ?_
  obtain ⟨m1, hm1⟩ : ∃ m1, m1 = w.heap.size + 1 := ⟨_, rfl⟩
  have F1 : From w W1 := by rw [hW1]; exact (((From.refl w).alloc _).alloc _).alloc _
  have M1 : MapI W1 m1 [] := by
    have := MapI.new (w.alloc (.cells #[.int .i64 1, .slice (some ⟨bn, 0, none⟩) 1 1, .slice (some ⟨bp, 0, none⟩) 1 1, .slice (some ⟨ba, 0, none⟩) 1 1, .slice none 0 0] 43))
    have h2 := this.below ((From.refl _).alloc (.map #[] 0)).out
    rw [hW1, hm1]; simpa using h2
  have M2 : MapI W1 (m1 + 1) [] := by
    have := MapI.new ((w.alloc (.cells #[.int .i64 1, .slice (some ⟨bn, 0, none⟩) 1 1, .slice (some ⟨bp, 0, none⟩) 1 1, .slice (some ⟨ba, 0, none⟩) 1 1, .slice none 0 0] 43)).alloc (.map #[] 0))
    rw [hW1, hm1]; simpa using this
  have b2 : W1.cell? ⟨w.heap.size, 2, none⟩ = some (.slice (some ⟨bp, 0, none⟩) 1 1) := by rw [hW1]; go_simp
  have B1 : Below w.heap.size w W1 := F1.out
  have hlt1 : m1 < W1.heap.size := M1.lt
  have hlt2 : m1 + 1 < W1.heap.size := M2.lt
  have hwm : w.heap.size < m1 := by omega
  rw [← hm1]
  clear hW1 F1 hm1
  have A1 : AwV W1 bn bp bc br ba := HA.out.below B1
  obtain ⟨n0, n1, k0, r0, p0, p1, p2, p3, p4, p5, p6, p7, p8, a0⟩ := A1
  have P1 : From W1 (W1.alloc (.cells #[.int .i64 7, .slice (some ⟨bc, 0, none⟩) 1 1] 37)) := (From.refl _).alloc _
  have y1 : (W1.alloc (.cells #[.int .i64 7, .slice (some ⟨bc, 0, none⟩) 1 1] 37)).cell? ⟨W1.heap.size, 0, none⟩ = some (.int .i64 7) := by go_simp
  have N1 : MapI (W1.alloc (.cells #[.int .i64 7, .slice (some ⟨bc, 0, none⟩) 1 1] 37)) (m1) [] := M1.below P1.out
  have O1 : MapI (W1.alloc (.cells #[.int .i64 7, .slice (some ⟨bc, 0, none⟩) 1 1] 37)) (m1 + 1) [] := M2.below P1.out
  have l1 : (Instr.lookup 178 (.map (some (m1))) (.int .i64 7) false).run Tryz.prog (W1.alloc (.cells #[.int .i64 7, .slice (some ⟨bc, 0, none⟩) 1 1] 37)) = .ok (.int .i64 0) (W1.alloc (.cells #[.int .i64 7, .slice (some ⟨bc, 0, none⟩) 1 1] 37)) := (lookI_int N1 7).trans rfl
  have z2 := P1.cell b2
  obtain ⟨W2, u1, V1, U1⟩ := updI_int N1 7 (.int .i64 1)
  have l1' : (Instr.lookup 178 (.map (some (m1))) (.int .i64 7) false).run Tryz.prog W2 = .ok (.int .i64 1) W2 := (lookI_int V1 7).trans rfl
  have y1' := U1.cell (by omega) y1
  have z2' := U1.cell (by omega) z2
  have R1 := U1.map (b := m1 + 1) (by omega) O1
  have B1' : Below w.heap.size w W2 := (B1.alloc B1.size _).trans (U1.below (by omega))
  have HN1 := Lib.hid (show MapI W2 (m1) [(7, .int .i64 1)] from V1)
  have HO1 := Lib.hid R1
  have HB1 := Lib.hid B1'
  clear P1 N1 O1 z2 V1 U1 R1 M1 M2 B1 B1' b2 y1
  rw [rounds_succ]
  go_wp2
  have b2 := z2'
  have M1 := HN1.out
  have M2 := HO1.out
  have B1 := HB1.out
  have A1 : AwV W2 bn bp bc br ba := HA.out.below B1
  have hlt1 : m1 < W2.heap.size := M1.lt
  have hlt2 : m1 + 1 < W2.heap.size := M2.lt
  clear z2' HN1 HO1 HB1 l1 l1' u1 y1'
  clear n0 n1 k0 r0 p0 p1 p2 p3 p4 p5 p6 p7 p8 a0
  rw [rounds_succ]
  go_wp2
  refine wp_loop_rounds 2 ?_
  obtain ⟨n0, n1, k0, r0, p0, p1, p2, p3, p4, p5, p6, p7, p8, a0⟩ := A1
  have P2 : From W2 (W2.alloc (.cells #[.int .i64 1, .int .i64 0, .bool false, .int .i64 0, .slice (some ⟨br, 0, none⟩) 1 1, .int .i64 0, .int .i64 1, .int .i64 (-1), .int .i64 (-1)] 40)) := (From.refl _).alloc _
  have y2 : (W2.alloc (.cells #[.int .i64 1, .int .i64 0, .bool false, .int .i64 0, .slice (some ⟨br, 0, none⟩) 1 1, .int .i64 0, .int .i64 1, .int .i64 (-1), .int .i64 (-1)] 40)).cell? ⟨W2.heap.size, 0, none⟩ = some (.int .i64 1) := by go_simp
  have N2 : MapI (W2.alloc (.cells #[.int .i64 1, .int .i64 0, .bool false, .int .i64 0, .slice (some ⟨br, 0, none⟩) 1 1, .int .i64 0, .int .i64 1, .int .i64 (-1), .int .i64 (-1)] 40)) (m1 + 1) [] := M2.below P2.out
  have O2 : MapI (W2.alloc (.cells #[.int .i64 1, .int .i64 0, .bool false, .int .i64 0, .slice (some ⟨br, 0, none⟩) 1 1, .int .i64 0, .int .i64 1, .int .i64 (-1), .int .i64 (-1)] 40)) (m1) [(7, .int .i64 1)] := M1.below P2.out
  have l2 : (Instr.lookup 178 (.map (some (m1 + 1))) (.int .i64 1) false).run Tryz.prog (W2.alloc (.cells #[.int .i64 1, .int .i64 0, .bool false, .int .i64 0, .slice (some ⟨br, 0, none⟩) 1 1, .int .i64 0, .int .i64 1, .int .i64 (-1), .int .i64 (-1)] 40)) = .ok (.int .i64 0) (W2.alloc (.cells #[.int .i64 1, .int .i64 0, .bool false, .int .i64 0, .slice (some ⟨br, 0, none⟩) 1 1, .int .i64 0, .int .i64 1, .int .i64 (-1), .int .i64 (-1)] 40)) := (lookI_int N2 1).trans rfl
  have z2 := P2.cell b2
  obtain ⟨W3, u2, V2, U2⟩ := updI_int N2 1 (.int .i64 1)
  have l2' : (Instr.lookup 178 (.map (some (m1 + 1))) (.int .i64 1) false).run Tryz.prog W3 = .ok (.int .i64 1) W3 := (lookI_int V2 1).trans rfl
  have y2' := U2.cell (by omega) y2
  have z2' := U2.cell (by omega) z2
  have R2 := U2.map (b := m1) (by omega) O2
  have B2' : Below w.heap.size w W3 := (B1.alloc B1.size _).trans (U2.below (by omega))
  have HN2 := Lib.hid (show MapI W3 (m1 + 1) [(1, .int .i64 1)] from V2)
  have HO2 := Lib.hid R2
  have HB2 := Lib.hid B2'
  clear P2 N2 O2 z2 V2 U2 R2 M1 M2 B1 B2' b2 y2
  rw [rounds_succ]
  go_wp2
  have b2 := z2'
  have M2 := HN2.out
  have M1 := HO2.out
  have B1 := HB2.out
  have A1 : AwV W3 bn bp bc br ba := HA.out.below B1
  have hlt1 : m1 < W3.heap.size := M1.lt
  have hlt2 : m1 + 1 < W3.heap.size := M2.lt
  clear z2' HN2 HO2 HB2 l2 l2' u2 y2'
  clear n0 n1 k0 r0 p0 p1 p2 p3 p4 p5 p6 p7 p8 a0
  rw [rounds_succ]
  go_wp2
  go_ret
  exact ⟨_, _, rfl, B1⟩
set_option maxHeartbeats 1000000 in
set_option maxRecDepth 100000 in
theorem pods0_ph (ba g : Nat) (w : World) : Calls Tryz.prog 113 #[noView ba, .func (Fn.func 114) #[] #[.pointer (some ⟨g, 0, none⟩)]] w fun e w' => e = .returned (.slice none 0 0) ∧ From w w' := by
  go_enter Tryz.func113, Tryz.ntmps113
  go_wp2
  refine wp_loop_rounds 1 ?_
  rw [rounds_succ]
  go_wp2
  go_ret
  exact ⟨rfl, (From.refl w).alloc _⟩
set_option maxHeartbeats 1000000 in
set_option maxRecDepth 100000 in
theorem pods1_ph (g : Nat) (I : Nat → World → Prop) (w : World) (bn bp bc br ba : Nat) (h : I 0 w) (hF : ∀ i X X', From X X' → I i X → I i X')
    (hA : ∀ i X, I i X → AwV X bn bp bc br ba)
    (hc1 : ∀ X, I 0 X → Calls Tryz.prog 114 #[awPod br, .pointer (some ⟨g, 0, none⟩)] X fun e X' => e = .returned (.bool false) ∧ I 1 X') :
    Calls Tryz.prog 113 #[awView bn bp ba, .func (Fn.func 114) #[] #[.pointer (some ⟨g, 0, none⟩)]] w fun e w' => e = .returned (.slice none 0 0) ∧ I 1 w' := by
  have HF := Lib.hid hF
  have HA := Lib.hid hA
  have H1 := Lib.hid hc1
  have H0 := Lib.hid h
  clear hF hA hc1 h
  go_enter Tryz.func113, Tryz.ntmps113
  go_wp2
  refine wp_loop_rounds 2 ?_
  refine rounds_named fun W1 hW1 => ?_
  have HI := Lib.hid (HF.out 0 w W1 (by rw [hW1]; exact (From.refl w).alloc _) H0.out)
  clear hW1 H0
  obtain ⟨n0, n1, k0, r0, p0, p1, p2, p3, p4, p5, p6, p7, p8, a0⟩ := HA.out _ _ HI.out
  rw [rounds_succ]
  go_wp2_with fail
  refine calls_named fun X1 hX1 => ?_
  have HJ := Lib.hid (HF.out 0 W1 X1 (by rw [hX1]; exact (From.refl _).alloc _) HI.out)
  clear hX1 HI n0 n1 k0 r0 p0 p1 p2 p3 p4 p5 p6 p7 p8 a0
  refine (H1.out _ HJ.out).mono ?_
  rintro e W2 ⟨rfl, hI⟩
  have HI := Lib.hid hI
  clear hI HJ
  go_wp2
  rw [rounds_succ]
  go_wp2
  go_ret
  exact ⟨rfl, HI.out⟩
set_option maxHeartbeats 1000000 in
set_option maxRecDepth 100000 in
theorem pods0_pl (ba g : Nat) (w : World) : Calls Tryz.prog 113 #[noView ba, .func (Fn.func 116) #[] #[.pointer (some ⟨g, 0, none⟩)]] w fun e w' => e = .returned (.slice none 0 0) ∧ From w w' := by
  go_enter Tryz.func113, Tryz.ntmps113
  go_wp2
  refine wp_loop_rounds 1 ?_
  rw [rounds_succ]
  go_wp2
  go_ret
  exact ⟨rfl, (From.refl w).alloc _⟩
set_option maxHeartbeats 1000000 in
set_option maxRecDepth 100000 in
theorem pods1_pl (g : Nat) (I : Nat → World → Prop) (w : World) (bn bp bc br ba : Nat) (h : I 0 w) (hF : ∀ i X X', From X X' → I i X → I i X')
    (hA : ∀ i X, I i X → AwV X bn bp bc br ba)
    (hc1 : ∀ X, I 0 X → Calls Tryz.prog 116 #[awPod br, .pointer (some ⟨g, 0, none⟩)] X fun e X' => e = .returned (.bool false) ∧ I 1 X') :
    Calls Tryz.prog 113 #[awView bn bp ba, .func (Fn.func 116) #[] #[.pointer (some ⟨g, 0, none⟩)]] w fun e w' => e = .returned (.slice none 0 0) ∧ I 1 w' := by
  have HF := Lib.hid hF
  have HA := Lib.hid hA
  have H1 := Lib.hid hc1
  have H0 := Lib.hid h
  clear hF hA hc1 h
  go_enter Tryz.func113, Tryz.ntmps113
  go_wp2
  refine wp_loop_rounds 2 ?_
  refine rounds_named fun W1 hW1 => ?_
  have HI := Lib.hid (HF.out 0 w W1 (by rw [hW1]; exact (From.refl w).alloc _) H0.out)
  clear hW1 H0
  obtain ⟨n0, n1, k0, r0, p0, p1, p2, p3, p4, p5, p6, p7, p8, a0⟩ := HA.out _ _ HI.out
  rw [rounds_succ]
  go_wp2_with fail
  refine calls_named fun X1 hX1 => ?_
  have HJ := Lib.hid (HF.out 0 W1 X1 (by rw [hX1]; exact (From.refl _).alloc _) HI.out)
  clear hX1 HI n0 n1 k0 r0 p0 p1 p2 p3 p4 p5 p6 p7 p8 a0
  refine (H1.out _ HJ.out).mono ?_
  rintro e W2 ⟨rfl, hI⟩
  have HI := Lib.hid hI
  clear hI HJ
  go_wp2
  rw [rounds_succ]
  go_wp2
  go_ret
  exact ⟨rfl, HI.out⟩
set_option maxHeartbeats 1000000 in
set_option maxRecDepth 100000 in
theorem pods0_li (ba g g2 : Nat) (w : World) : Calls Tryz.prog 113 #[noView ba, .func (Fn.func 117) #[] #[.pointer (some ⟨g, 0, none⟩), .pointer (some ⟨g2, 0, none⟩)]] w fun e w' => e = .returned (.slice none 0 0) ∧ From w w' := by
  go_enter Tryz.func113, Tryz.ntmps113
  go_wp2
  refine wp_loop_rounds 1 ?_
  rw [rounds_succ]
  go_wp2
  go_ret
  exact ⟨rfl, (From.refl w).alloc _⟩
set_option maxHeartbeats 1000000 in
set_option maxRecDepth 100000 in
theorem pods1_li (g g2 : Nat) (I : Nat → World → Prop) (w : World) (bn bp bc br ba : Nat) (h : I 0 w) (hF : ∀ i X X', From X X' → I i X → I i X')
    (hA : ∀ i X, I i X → AwV X bn bp bc br ba)
    (hc1 : ∀ X, I 0 X → Calls Tryz.prog 117 #[awPod br, .pointer (some ⟨g, 0, none⟩), .pointer (some ⟨g2, 0, none⟩)] X fun e X' => e = .returned (.bool false) ∧ I 1 X') :
    Calls Tryz.prog 113 #[awView bn bp ba, .func (Fn.func 117) #[] #[.pointer (some ⟨g, 0, none⟩), .pointer (some ⟨g2, 0, none⟩)]] w fun e w' => e = .returned (.slice none 0 0) ∧ I 1 w' := by
  have HF := Lib.hid hF
  have HA := Lib.hid hA
  have H1 := Lib.hid hc1
  have H0 := Lib.hid h
  clear hF hA hc1 h
  go_enter Tryz.func113, Tryz.ntmps113
  go_wp2
  refine wp_loop_rounds 2 ?_
  refine rounds_named fun W1 hW1 => ?_
  have HI := Lib.hid (HF.out 0 w W1 (by rw [hW1]; exact (From.refl w).alloc _) H0.out)
  clear hW1 H0
  obtain ⟨n0, n1, k0, r0, p0, p1, p2, p3, p4, p5, p6, p7, p8, a0⟩ := HA.out _ _ HI.out
  rw [rounds_succ]
  go_wp2_with fail
  refine calls_named fun X1 hX1 => ?_
  have HJ := Lib.hid (HF.out 0 W1 X1 (by rw [hX1]; exact (From.refl _).alloc _) HI.out)
  clear hX1 HI n0 n1 k0 r0 p0 p1 p2 p3 p4 p5 p6 p7 p8 a0
  refine (H1.out _ HJ.out).mono ?_
  rintro e W2 ⟨rfl, hI⟩
  have HI := Lib.hid hI
  clear hI HJ
  go_wp2
  rw [rounds_succ]
  go_wp2
  go_ret
  exact ⟨rfl, HI.out⟩
set_option maxHeartbeats 1000000 in
set_option maxRecDepth 100000 in
theorem phases_c (g br : Nat) (s : ByteArray) (w : World) (hs : s.toList.isEmpty = false) (hn : w.cell? ⟨2, 1, none⟩ = some (.string s)) (hg : w.cell? ⟨g, 0, none⟩ = some (.int .i64 1)) :
    Calls Tryz.prog 114 #[awPod br, .pointer (some ⟨g, 0, none⟩)] w fun e w' => e = .returned (.bool false) ∧ From w w' := by
  have HP := Lib.hid (placed_any 1)
  have HN := Lib.hid fun w' h => phaseName_in 1 s w' (by omega) h
  rw [show placedB 1 = false from rfl] at HP
  go_enter Tryz.func114, Tryz.ntmps114
  go_wp2_with fail
  refine calls_named fun X hX => ?_
  have F1 : From w X := by rw [hX]; exact (From.refl w).alloc _
  have n1 := F1.cell hn
  have g1 := F1.cell hg
  have e4 : X.cell? ⟨w.heap.size, 4, none⟩ = some (.slice (some ⟨br, 0, none⟩) 1 1) := by rw [hX]; go_simp
  have e6 : X.cell? ⟨w.heap.size, 6, none⟩ = some (.int .i64 1) := by rw [hX]; go_simp
  have e7 : X.cell? ⟨w.heap.size, 7, none⟩ = some (.int .i64 (-1)) := by rw [hX]; go_simp
  have e8 : X.cell? ⟨w.heap.size, 8, none⟩ = some (.int .i64 (-1)) := by rw [hX]; go_simp
  clear hX hn hg
  refine (HP.out _).mono ?_
  rintro e w1 ⟨rfl, rfl⟩
  go_wp2_with (go_at_call 115; refine (HN.out _ n1).mono ?_; rintro e w2 ⟨rfl, rfl⟩)
  go_ret
  exact ⟨rfl, F1⟩
set_option maxHeartbeats 1000000 in
set_option maxRecDepth 100000 in
theorem places_c (g br : Nat) (w : World) :
    Calls Tryz.prog 116 #[awPod br, .pointer (some ⟨g, 0, none⟩)] w fun e w' => e = .returned (.bool false) ∧ From w w' := by
  have HP := Lib.hid (placed_any 1)
  rw [show placedB 1 = false from rfl] at HP
  go_enter Tryz.func116, Tryz.ntmps116
  go_wp2_with fail
  refine calls_named fun X hX => ?_
  have F1 : From w X := by rw [hX]; exact (From.refl w).alloc _
  clear hX
  refine (HP.out _).mono ?_
  rintro e w1 ⟨rfl, rfl⟩
  go_wp2
  go_ret
  exact ⟨rfl, F1⟩
set_option maxHeartbeats 1000000 in
set_option maxRecDepth 100000 in
theorem lists_c (g g2 br mk ml : Nat) (w : World) (hg : w.cell? ⟨g, 0, none⟩ = some (.map (some mk))) (hg2 : w.cell? ⟨g2, 0, none⟩ = some (.map (some ml)))
    (hk : MapI w mk []) (hl : MapI w ml [(1, .int .i64 1)]) (hne : ml ≠ mk) (hgm : g2 ≠ mk) :
    Calls Tryz.prog 117 #[awPod br, .pointer (some ⟨g, 0, none⟩), .pointer (some ⟨g2, 0, none⟩)] w fun e w' => e = .returned (.bool false) ∧
      MapI w' mk [(1, .bool true)] ∧ (∃ X, From w X ∧ Upd mk X w') := by
  have HP := Lib.hid (waits_any 1)
  rw [show waitsB 1 = true from rfl] at HP
  obtain ⟨X, hX⟩ : ∃ X, X = w.alloc (.cells #[.int .i64 1, .int .i64 0, .bool false, .int .i64 0, .slice (some ⟨br, 0, none⟩) 1 1, .int .i64 0, .int .i64 1, .int .i64 (-1), .int .i64 (-1)] 40) := ⟨_, rfl⟩
  have F1 : From w X := by rw [hX]; exact (From.refl w).alloc _
  have hml := hk.lt
  have g1 := F1.cell hg
  have g3 := F1.cell hg2
  have k1 := hk.below F1.out
  have l1 := hl.below F1.out
  have e0 : X.cell? ⟨w.heap.size, 0, none⟩ = some (.int .i64 1) := by rw [hX]; go_simp
  have e6 : X.cell? ⟨w.heap.size, 6, none⟩ = some (.int .i64 1) := by rw [hX]; go_simp
  obtain ⟨Y, hu, V, U⟩ := updI_bool k1 1 (.bool true)
  have y0 := U.cell (by omega) e0
  have y6 := U.cell (by omega) e6
  have y3 := U.cell hgm g3
  have L1 : (Instr.lookup 178 (.map (some ml)) (.int .i64 1) false).run Tryz.prog Y = .ok (.int .i64 1) Y := (lookI_int (U.map hne l1) 1).trans rfl
  have HR : Hid (MapI Y mk [(1, .bool true)] ∧ (∃ X, From w X ∧ Upd mk X Y)) := ⟨V, X, F1, U⟩
  have hgl := cell_lt hg
  have hgl2 := cell_lt hg2
  clear hk hl hne hgm F1 k1 l1 V U hml e0 e6 g1 g3
  subst hX
  go_enter Tryz.func117, Tryz.ntmps117
  go_wp2_with fail
  refine (HP.out _).mono ?_
  rintro e w2 ⟨rfl, rfl⟩
  go_wp2
  go_ret
  exact ⟨rfl, HR.out⟩
end Go.Proofs.YtllipidegjpidaaGreatDoor
