/- audit.phases, places and lists of the views of awake. -/
import Derived.Test.YtllipidegjpidaaGreatDoorJE
import Derived.Deep.RegionWith
namespace Go.Proofs.YtllipidegjpidaaGreatDoor
set_option linter.all false
open Go.RowKit

theorem app_one (W : World) (o : Obj) (a : Value) (cs : Array Value) (t : Nat) : ((W.alloc o).alloc (Obj.cells (#[a] ++ cs) t)).drew.cell? ⟨W.heap.size + 1, 0, none⟩ = some a := by
  go_simp; simp [Array.getElem?_append]
set_option maxHeartbeats 1000000 in
set_option maxRecDepth 100000 in
theorem phases0 (ba : Nat) (w : World) : Calls Tryz.prog 79 #[noView ba] w fun e w' => ∃ a c, e = .returned (.slice a 0 c) ∧ Below w.heap.size w w' := by
  have HP := Lib.hid fun g w' => pods0_ph ba g w'
  go_enter Tryz.func79, Tryz.ntmps79
  go_wp2_with fail
  refine calls_named fun X hX => ?_
  have F1 : From w X := by rw [hX]; exact (From.refl w).alloc _
  clear hX
  refine (HP.out _ _).mono ?_
  rintro e w1 ⟨rfl, hf⟩
  go_wp2
  go_ret
  exact ⟨_, _, rfl, (F1.trans hf).out⟩
set_option maxHeartbeats 1000000 in
set_option maxRecDepth 100000 in
theorem phases1 (w : World) (bn bp bc br ba : Nat) (s : ByteArray) (hs : s.toList.isEmpty = false) (h : AwV w bn bp bc br ba) (hn : w.cell? ⟨2, 1, none⟩ = some (.string s)) : Calls Tryz.prog 79 #[awView bn bp ba] w fun e w' => ∃ a c, e = .returned (.slice a 0 c) ∧ Below w.heap.size w w' := by
  have HC := Lib.hid fun g br w hn hg => phases_c g br s w hs hn hg
  have HP := Lib.hid fun g I X => pods1_ph g I X bn bp bc br ba
  have HA := Lib.hid h
  have HN := Lib.hid hn
  clear h hn
  go_enter Tryz.func79, Tryz.ntmps79
  go_wp2_with fail
  refine calls_named fun X hX => ?_
  have F1 : From w X := by rw [hX]; exact (From.refl w).alloc _
  have b0 : X.cell? ⟨w.heap.size, 0, none⟩ = some (.int .i64 1) := by rw [hX]; go_simp
  have n0 := F1.cell HN.out
  have A1 := HA.out.below F1.out
  clear hX
  refine (HP.out _ (fun _ Y => From X Y) X (From.refl X) (fun i Y Z f h => h.trans f) (fun i Y h => A1.below h.out)
    (fun Y h => (HC.out _ br Y (h.cell n0) (h.cell b0)).mono (fun e Z hz => ⟨hz.1, h.trans hz.2⟩))).mono ?_
  rintro e w1 ⟨rfl, hf⟩
  go_wp2
  go_ret
  exact ⟨_, _, rfl, (F1.trans hf).out⟩
set_option maxHeartbeats 1000000 in
set_option maxRecDepth 100000 in
theorem places0 (ba : Nat) (w : World) : Calls Tryz.prog 80 #[noView ba] w fun e w' => ∃ a c, e = .returned (.slice a 0 c) ∧ Below w.heap.size w w' := by
  have HP := Lib.hid fun g w' => pods0_pl ba g w'
  have hmm := @run_makeMap Tryz.prog
  go_enter Tryz.func80, Tryz.ntmps80
  go_wp2
  refine wp_loop_rounds 1 ?_
  rw [rounds_succ]
  go_wp2_with fail
  refine calls_named fun X hX => ?_
  have F1 : From w X := by rw [hX]; exact (((From.refl w).alloc _).alloc _).alloc _
  clear hX
  refine (HP.out _ _).mono ?_
  rintro e w1 ⟨rfl, hf⟩
  go_wp2
  go_ret
  exact ⟨_, _, rfl, (F1.trans hf).out⟩
set_option maxHeartbeats 1000000 in
set_option maxRecDepth 100000 in
theorem places1 (w : World) (bn bp bc br ba : Nat) (h : AwV w bn bp bc br ba) : Calls Tryz.prog 80 #[awView bn bp ba] w fun e w' => ∃ a c, e = .returned (.slice a 0 c) ∧ Below w.heap.size w w' := by
  have HC := Lib.hid fun g br w => places_c g br w
  have HP := Lib.hid fun g I X => pods1_pl g I X bn bp bc br ba
  have HA := Lib.hid h
  have hmm := @run_makeMap Tryz.prog
  clear h
  go_enter Tryz.func80, Tryz.ntmps80
  go_wp2
  refine wp_loop_rounds 2 ?_
  refine rounds_named fun W1 hW1 => ?_
  have F1 : From w W1 := by rw [hW1]; exact (((From.refl w).alloc _).alloc _).alloc _
  have M1 : MapI W1 (w.heap.size + 1) [] := by
    have := MapI.new (w.alloc (.cells #[.int .i64 1, .slice (some ⟨bn, 0, none⟩) 1 1, .slice (some ⟨bp, 0, none⟩) 1 1, .slice (some ⟨ba, 0, none⟩) 1 1, .slice none 0 0] 43))
    have h2 := this.below ((From.refl _).alloc (.cells #[.map (some (w.heap.size + 1))] 182)).out
    rw [hW1]; simpa using h2
  have b0 : W1.cell? ⟨w.heap.size, 0, none⟩ = some (.int .i64 1) := by rw [hW1]; go_simp
  have b1 : W1.cell? ⟨w.heap.size, 1, none⟩ = some (.slice (some ⟨bn, 0, none⟩) 1 1) := by rw [hW1]; go_simp
  have b2 : W1.cell? ⟨w.heap.size, 2, none⟩ = some (.slice (some ⟨bp, 0, none⟩) 1 1) := by rw [hW1]; go_simp
  have b3 : W1.cell? ⟨w.heap.size, 3, none⟩ = some (.slice (some ⟨ba, 0, none⟩) 1 1) := by rw [hW1]; go_simp
  have b4 : W1.cell? ⟨w.heap.size, 4, none⟩ = some (.slice none 0 0) := by rw [hW1]; go_simp
  have d0 : W1.cell? ⟨w.heap.size + 1 + 1, 0, none⟩ = some (.map (some (w.heap.size + 1))) := by rw [hW1]; go_simp
  obtain ⟨m1, hm1⟩ : ∃ m1, m1 = w.heap.size + 1 := ⟨_, rfl⟩
  rw [← hm1] at M1 d0 ⊢
  have hwm : w.heap.size < m1 := by omega
  clear hW1 hm1
  have hl1 := cell_lt d0
  have A1 := HA.out.below F1.out
  have n0 := A1.n0
  have n1 := A1.n1
  have P1 : From W1 (W1.alloc (.cells #[.int .i64 7, .slice (some ⟨bc, 0, none⟩) 1 1] 37)) := (From.refl _).alloc _
  have N1 := M1.below P1.out
  obtain ⟨W2, u1, V1, U1⟩ := updI_bool N1 7 (.bool true)
  have B2 : Below w.heap.size w W2 := (F1.out.alloc F1.out.size _).trans (U1.below (by omega))
  have e0 := U1.cell (by omega) (P1.cell b0)
  have e1 := U1.cell (by omega) (P1.cell b1)
  have e2 := U1.cell (by omega) (P1.cell b2)
  have e3 := U1.cell (by omega) (P1.cell b3)
  have e4 := U1.cell (by omega) (P1.cell b4)
  have H2 := Lib.hid B2
  clear P1 N1 V1 U1 B2 A1 F1 M1
  rw [rounds_succ]
  go_wp2
  rw [rounds_succ]
  go_wp2_with fail
  refine (HP.out _ (fun _ Y => From W2 Y) W2 (From.refl W2) (fun i Y Z f h => h.trans f) (fun i Y h => (HA.out.below H2.out).below h.out)
    (fun Y h => (HC.out _ br Y).mono (fun e Z hz => ⟨hz.1, h.trans hz.2⟩))).mono ?_
  rintro e w1 ⟨rfl, hf⟩
  go_wp2
  go_ret
  exact ⟨_, _, rfl, H2.out.trans (hf.out.mono H2.out.size)⟩
theorem lists_keep {w Y Z : World} {m1 : Nat} {kvs kvs' : List (Int × Value)} (hwm : w.heap.size < m1) (h : Below w.heap.size w Y ∧ Y.cell? ⟨m1 + 1 + 1, 0, none⟩ = some (.map (some m1)) ∧ Y.cell? ⟨m1 + 1 + 1 + 1, 0, none⟩ = some (.map (some (m1 + 1))) ∧ MapI Y m1 kvs ∧ MapI Y (m1 + 1) [(1, .int .i64 1)])
    (hm : MapI Z m1 kvs') (hu : ∃ X, From Y X ∧ Upd m1 X Z) : Below w.heap.size w Z ∧ Z.cell? ⟨m1 + 1 + 1, 0, none⟩ = some (.map (some m1)) ∧ Z.cell? ⟨m1 + 1 + 1 + 1, 0, none⟩ = some (.map (some (m1 + 1))) ∧ MapI Z m1 kvs' ∧ MapI Z (m1 + 1) [(1, .int .i64 1)] := by
  obtain ⟨X, f, u⟩ := hu
  exact ⟨(h.1.trans (f.out.mono h.1.size)).trans (u.below (by omega)), u.cell (by omega) (f.cell h.2.1), u.cell (by omega) (f.cell h.2.2.1), hm, u.map (by omega) (h.2.2.2.2.below f.out)⟩
def lst : Nat → List (Int × Value)
  | 0 => []
  | _ => [(1, .bool true)]
set_option maxHeartbeats 1000000 in
set_option maxRecDepth 100000 in
theorem lists1 (w : World) (bn bp bc br ba : Nat) (h : AwV w bn bp bc br ba) : Calls Tryz.prog 81 #[awView bn bp ba] w fun e w' => ∃ a c, e = .returned (.slice a 0 c) ∧ Below w.heap.size w w' := by
  have HC := Lib.hid fun g g2 br mk ml w h1 h2 h3 h4 h5 h6 => lists_c g g2 br mk ml w h1 h2 h3 h4 h5 h6
  have HP := Lib.hid fun g g2 I X => pods1_li g g2 I X bn bp bc br ba
  have HA := Lib.hid h
  have HA0 : Hid (∀ X, From w X → X.cell? ⟨ba, 0, none⟩ = some (.int .i64 1)) := fun X f => f.cell h.a0
  have HA00 : Hid (w.cell? ⟨ba, 0, none⟩ = some (.int .i64 1)) := h.a0
  clear h
  have hmm := @run_makeMap Tryz.prog
  go_enter Tryz.func81, Tryz.ntmps81
  go_wp2
  refine wp_named fun W1 hW1 => ?_
  have F1 : From w W1 := by rw [hW1]; exact (((((From.refl w).alloc _).alloc _).alloc _).alloc _).alloc _
  have M1 : MapI W1 (w.heap.size + 1) [] := by
    have := MapI.new (w.alloc (.cells #[.int .i64 1, .slice (some ⟨bn, 0, none⟩) 1 1, .slice (some ⟨bp, 0, none⟩) 1 1, .slice (some ⟨ba, 0, none⟩) 1 1, .slice none 0 0] 43))
    have h2 := this.below ((((From.refl _).alloc (.map #[] 0)).alloc (.cells #[.map (some (w.heap.size + 1))] 182)).alloc (.cells #[.map (some (w.heap.size + 1 + 1))] 178)).out
    rw [hW1]; simpa using h2
  have M2 : MapI W1 (w.heap.size + 1 + 1) [] := by
    have := MapI.new ((w.alloc (.cells #[.int .i64 1, .slice (some ⟨bn, 0, none⟩) 1 1, .slice (some ⟨bp, 0, none⟩) 1 1, .slice (some ⟨ba, 0, none⟩) 1 1, .slice none 0 0] 43)).alloc (.map #[] 0))
    have h2 := this.below (((From.refl _).alloc (.cells #[.map (some (w.heap.size + 1))] 182)).alloc (.cells #[.map (some (w.heap.size + 1 + 1))] 178)).out
    rw [hW1]; simpa using h2
  have b0 : W1.cell? ⟨w.heap.size, 0, none⟩ = some (.int .i64 1) := by rw [hW1]; go_simp
  have b1 : W1.cell? ⟨w.heap.size, 1, none⟩ = some (.slice (some ⟨bn, 0, none⟩) 1 1) := by rw [hW1]; go_simp
  have b2 : W1.cell? ⟨w.heap.size, 2, none⟩ = some (.slice (some ⟨bp, 0, none⟩) 1 1) := by rw [hW1]; go_simp
  have b3 : W1.cell? ⟨w.heap.size, 3, none⟩ = some (.slice (some ⟨ba, 0, none⟩) 1 1) := by rw [hW1]; go_simp
  have b4 : W1.cell? ⟨w.heap.size, 4, none⟩ = some (.slice none 0 0) := by rw [hW1]; go_simp
  have d0 : W1.cell? ⟨w.heap.size + 1 + 1 + 1, 0, none⟩ = some (.map (some (w.heap.size + 1))) := by rw [hW1]; go_simp
  have d1 : W1.cell? ⟨w.heap.size + 1 + 1 + 1 + 1, 0, none⟩ = some (.map (some (w.heap.size + 1 + 1))) := by rw [hW1]; go_simp
  obtain ⟨m1, hm1⟩ : ∃ m1, m1 = w.heap.size + 1 := ⟨_, rfl⟩
  rw [← hm1] at M1 M2 d0 d1 ⊢
  have hwm : w.heap.size < m1 := by omega
  clear hW1 hm1
  have a0 := HA0.out W1 F1
  have HM1 := Lib.hid M1
  have HM2 := Lib.hid M2
  have HF1 := Lib.hid F1
  clear M1 M2 F1
  go_region
  have FD : From W1 W1.drew := (From.refl W1).drew
  have b0 := FD.cell b0
  have b1 := FD.cell b1
  have b2 := FD.cell b2
  have b3 := FD.cell b3
  have b4 := FD.cell b4
  have d0 := FD.cell d0
  have d1 := FD.cell d1
  have a0 := FD.cell a0
  have M1 := HM1.out.below FD.out
  have M2 := HM2.out.below FD.out
  have HF1 := Lib.hid (HF1.out.trans FD)
  clear FD HM1 HM2
  generalize W1.drew = W2 at *
  have L1 : (Instr.lookup 178 (.map (some (m1 + 1))) (.int .i64 1) false).run Tryz.prog W2 = .ok (.int .i64 0) W2 := (lookI_int M2 1).trans rfl
  obtain ⟨W3, u3, V3, U3⟩ := updI_int M2 1 (.int .i64 1)
  have B3 : Below w.heap.size w W3 := HF1.out.out.trans (U3.below (by omega))
  have N1 := U3.map (b := m1) (by omega) M1
  have e0 := U3.cell (by omega) b0
  have e1 := U3.cell (by omega) b1
  have e2 := U3.cell (by omega) b2
  have e3 := U3.cell (by omega) b3
  have e4 := U3.cell (by omega) b4
  have f0 := U3.cell (by omega) d0
  have f1 := U3.cell (by omega) d1
  have a3 := U3.cell (by have := cell_lt HA00.out; have := HF1.out.out.size; omega) a0
  have HB3 := Lib.hid B3
  have HN1 := Lib.hid N1
  have HV3 : Hid (MapI W3 (m1 + 1) [(1, .int .i64 1)]) := V3
  have hbal := cell_lt HA00.out
  clear B3 N1 V3 U3 M1 M2
  go_wp2
  refine wp_loop_rounds 2 ?_
  rw [rounds_succ]
  go_wp2
  clear L1 u3
  rw [rounds_succ]
  go_wp2_with fail
  have A0 : ∀ X, Below w.heap.size w X → AwV X bn bp bc br ba := fun X h => HA.out.below h
  refine (HP.out _ _ (fun i Y => Below w.heap.size w Y ∧ Y.cell? ⟨m1 + 1 + 1, 0, none⟩ = some (.map (some m1)) ∧ Y.cell? ⟨m1 + 1 + 1 + 1, 0, none⟩ = some (.map (some (m1 + 1))) ∧ MapI Y m1 (lst i) ∧ MapI Y (m1 + 1) [(1, .int .i64 1)]) _ ⟨HB3.out, f0, f1, HN1.out, HV3.out⟩
    (fun i Y Z f h => ⟨h.1.trans (f.out.mono h.1.size), f.cell h.2.1, f.cell h.2.2.1, h.2.2.2.1.below f.out, h.2.2.2.2.below f.out⟩) (fun i Y h => A0 _ h.1)
    (fun Y h => (HC.out _ _ br _ _ Y h.2.1 h.2.2.1 h.2.2.2.1 h.2.2.2.2 (by omega) (by omega)).mono (fun e Z hz => ⟨hz.1, lists_keep hwm h hz.2.1 hz.2.2⟩))).mono ?_
  rintro e w1 ⟨rfl, hf⟩
  have HZ := Lib.hid hf.1
  have z0 := hf.2.1
  have a4 := (A0 _ hf.1).a0
  have L4 : (Instr.lookup 182 (.map (some m1)) (.int .i64 1) false).run Tryz.prog w1 = .ok (.bool true) w1 := (lookI_bool hf.2.2.2.1 1).trans rfl
  clear hf A0
  go_wp2
  refine wp_loop_rounds 2 ?_
  rw [rounds_succ]
  go_wp2
  rw [rounds_succ]
  go_wp2
  go_ret
  exact ⟨_, _, rfl, HZ.out⟩
set_option maxHeartbeats 1000000 in
set_option maxRecDepth 100000 in
theorem lists0 (w : World) (ba : Nat) (h : w.cell? ⟨ba, 0, none⟩ = some (.int .i64 1)) : Calls Tryz.prog 81 #[noView ba] w fun e w' => ∃ b c, e = .returned (.slice (some ⟨b, 0, none⟩) 1 c) ∧ w'.cell? ⟨b, 0, none⟩ = some (.int .i64 1) ∧ Below w.heap.size w w' := by
  have HP := Lib.hid fun g g2 w' => pods0_li ba g g2 w'
  have HA0 : Hid (∀ X, From w X → X.cell? ⟨ba, 0, none⟩ = some (.int .i64 1)) := fun X f => f.cell h
  have HA00 := Lib.hid h
  clear h
  have hmm := @run_makeMap Tryz.prog
  go_enter Tryz.func81, Tryz.ntmps81
  go_wp2
  refine wp_named fun W1 hW1 => ?_
  have F1 : From w W1 := by rw [hW1]; exact (((((From.refl w).alloc _).alloc _).alloc _).alloc _).alloc _
  have M1 : MapI W1 (w.heap.size + 1) [] := by
    have := MapI.new (w.alloc (.cells #[.int .i64 1, .slice none 0 0, .slice none 0 0, .slice (some ⟨ba, 0, none⟩) 1 1, .slice none 0 0] 43))
    have h2 := this.below ((((From.refl _).alloc (.map #[] 0)).alloc (.cells #[.map (some (w.heap.size + 1))] 182)).alloc (.cells #[.map (some (w.heap.size + 1 + 1))] 178)).out
    rw [hW1]; simpa using h2
  have M2 : MapI W1 (w.heap.size + 1 + 1) [] := by
    have := MapI.new ((w.alloc (.cells #[.int .i64 1, .slice none 0 0, .slice none 0 0, .slice (some ⟨ba, 0, none⟩) 1 1, .slice none 0 0] 43)).alloc (.map #[] 0))
    have h2 := this.below (((From.refl _).alloc (.cells #[.map (some (w.heap.size + 1))] 182)).alloc (.cells #[.map (some (w.heap.size + 1 + 1))] 178)).out
    rw [hW1]; simpa using h2
  have b0 : W1.cell? ⟨w.heap.size, 0, none⟩ = some (.int .i64 1) := by rw [hW1]; go_simp
  have b1 : W1.cell? ⟨w.heap.size, 1, none⟩ = some (.slice none 0 0) := by rw [hW1]; go_simp
  have b2 : W1.cell? ⟨w.heap.size, 2, none⟩ = some (.slice none 0 0) := by rw [hW1]; go_simp
  have b3 : W1.cell? ⟨w.heap.size, 3, none⟩ = some (.slice (some ⟨ba, 0, none⟩) 1 1) := by rw [hW1]; go_simp
  have b4 : W1.cell? ⟨w.heap.size, 4, none⟩ = some (.slice none 0 0) := by rw [hW1]; go_simp
  have d0 : W1.cell? ⟨w.heap.size + 1 + 1 + 1, 0, none⟩ = some (.map (some (w.heap.size + 1))) := by rw [hW1]; go_simp
  have d1 : W1.cell? ⟨w.heap.size + 1 + 1 + 1 + 1, 0, none⟩ = some (.map (some (w.heap.size + 1 + 1))) := by rw [hW1]; go_simp
  obtain ⟨m1, hm1⟩ : ∃ m1, m1 = w.heap.size + 1 := ⟨_, rfl⟩
  rw [← hm1] at M1 M2 d0 d1 ⊢
  have hwm : w.heap.size < m1 := by omega
  clear hW1 hm1
  have a0 := HA0.out W1 F1
  have HM1 := Lib.hid M1
  have HM2 := Lib.hid M2
  have HF1 := Lib.hid F1
  clear M1 M2 F1
  go_region
  have FD : From W1 W1.drew := (From.refl W1).drew
  have b0 := FD.cell b0
  have b1 := FD.cell b1
  have b2 := FD.cell b2
  have b3 := FD.cell b3
  have b4 := FD.cell b4
  have d0 := FD.cell d0
  have d1 := FD.cell d1
  have a0 := FD.cell a0
  have M1 := HM1.out.below FD.out
  have M2 := HM2.out.below FD.out
  have HF1 := Lib.hid (HF1.out.trans FD)
  clear FD HM1 HM2
  generalize W1.drew = W2 at *
  have L1 : (Instr.lookup 178 (.map (some (m1 + 1))) (.int .i64 1) false).run Tryz.prog W2 = .ok (.int .i64 0) W2 := (lookI_int M2 1).trans rfl
  obtain ⟨W3, u3, V3, U3⟩ := updI_int M2 1 (.int .i64 1)
  have B3 : Below w.heap.size w W3 := HF1.out.out.trans (U3.below (by omega))
  have N1 := U3.map (b := m1) (by omega) M1
  have e0 := U3.cell (by omega) b0
  have e1 := U3.cell (by omega) b1
  have e2 := U3.cell (by omega) b2
  have e3 := U3.cell (by omega) b3
  have e4 := U3.cell (by omega) b4
  have f0 := U3.cell (by omega) d0
  have f1 := U3.cell (by omega) d1
  have a3 := U3.cell (by have := cell_lt HA00.out; have := HF1.out.out.size; omega) a0
  have HB3 := Lib.hid B3
  have HN1 := Lib.hid N1
  have HV3 : Hid (MapI W3 (m1 + 1) [(1, .int .i64 1)]) := V3
  have hbal := cell_lt HA00.out
  clear B3 N1 V3 U3 M1 M2
  go_wp2
  refine wp_loop_rounds 2 ?_
  rw [rounds_succ]
  go_wp2
  clear L1 u3
  rw [rounds_succ]
  go_wp2_with fail
  refine (HP.out _ _ _).mono ?_
  rintro e w1 ⟨rfl, hf⟩
  have z0 := hf.cell f0
  have a4 := hf.cell a3
  have L4 : (Instr.lookup 182 (.map (some m1)) (.int .i64 1) false).run Tryz.prog w1 = .ok (.bool false) w1 := (lookI_bool (HN1.out.below hf.out) 1).trans rfl
  have HZ : Hid (Below w.heap.size w w1) := HB3.out.trans (hf.out.mono HB3.out.size)
  clear hf
  go_wp2
  refine wp_loop_rounds 2 ?_
  rw [rounds_succ]
  go_wp2
  generalize (Question.appendCap 1 0 3).cut (w1.tape w1.drawn (Question.appendCap 1 0 3)) = cq
  generalize hZ : ((w1.alloc (Obj.cells #[.int .i64 1] 3)).alloc (Obj.cells (#[.int .i64 1] ++ Builtin.zeroCells #[.int .i64 0] (cq - 1)) 3)).drew = Z
  have hfz : From w1 Z := by rw [← hZ]; exact (((From.refl _).alloc _).alloc _).drew
  have q0 : Z.cell? ⟨w1.heap.size + 1, 0, none⟩ = some (.int .i64 1) := by rw [← hZ]; exact app_one _ _ _ _ _
  clear hZ
  rw [rounds_succ]
  go_wp2
  go_ret
  exact ⟨_, _, rfl, q0, HZ.out.trans (hfz.out.mono HZ.out.size)⟩
end Go.Proofs.YtllipidegjpidaaGreatDoor
