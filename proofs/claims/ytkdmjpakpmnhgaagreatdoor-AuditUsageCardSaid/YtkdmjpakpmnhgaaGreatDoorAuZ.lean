/- hammocklaw26.awake. -/
import Derived.Test.YtkdmjpakpmnhgaaGreatDoorAuY
import Derived.Test.YtkdmjpakpmnhgaaGreatDoorVec
import Derived.DeepKeys4
import Derived.Laws.StructEq
namespace Go.Proofs.YtkdmjpakpmnhgaaGreatDoor
set_option linter.all false
open Go.RowKit

abbrev probV (k i : Int) : Value := .agg #[.int .i64 k, .int .i64 i]
theorem ppart0 (x y : Int) (w : World) : (part 3 #[.int .i64 x, .int .i64 y] 0).run Tryz.prog w = .ok (.int .i64 x) w := by kernel_rfl
theorem ppart1 (x y : Int) (w : World) : (part 3 #[.int .i64 x, .int .i64 y] 1).run Tryz.prog w = .ok (.int .i64 y) w := by kernel_rfl
theorem equalProb (a b c d : Int) (w : World) : (Op.equal 44 (probV a b) (probV c d)).run Tryz.prog w = .ok (a == c && b == d) w := by
  have h : Tryz.prog.underlying 44 = some (.struct (Tryz.prog.fieldsOf 44)) := by kernel_rfl
  have hs : Tryz.prog.stoodInHeld 44 = false := by kernel_rfl
  unfold Op.equal Op.maxDepth
  rw [run_equalIn_struct w 9999 44 _ _ h hs]
  simp only [Program.fieldsOf, Tryz.underlying44, Op.eqFields, Sem.run_bind, Sem.run_ite, ppart0, ppart1, Result.andThen_ok, run_equalIn_int w 9998 3 .i64 .i64 _ _ Tryz.underlying3, Sem.run_pure]
  cases a == c <;> cases b == d <;> simp [Sem.run_pure, Op.eqFields, Result.andThen_ok]
theorem eqlProb (a b c d : Int) (w : World) : (binOp .eql 44 (probV a b) (probV c d)).run Tryz.prog w = .ok (.bool (a == c && b == d)) w := by
  simp [binOp, equalProb, Result.andThen_ok]
theorem field2 (w : World) : (Instr.field 33 noView 2).run Tryz.prog w = .ok (.slice none 0 0) w := by kernel_rfl
theorem eqlTwice (w : World) : (binOp .eql 9 (.string ⟨#[116, 119, 105, 99, 101]⟩) (.string ⟨#[116, 119, 105, 99, 101]⟩)).run Tryz.prog w = .ok (.bool true) w := by kernel_rfl
set_option maxHeartbeats 4000000 in
set_option maxRecDepth 100000 in
theorem awake26_any (w : World) (s : ByteArray) (hs : s.toList.isEmpty = false) (hn : w.cell? ⟨1, 3, none⟩ = some (.string s))
    (ha : w.cell? ⟨0, 5, none⟩ = some (.string ⟨#[116, 119, 105, 99, 101]⟩)) : Calls Tryz.prog 4 #[] w fun e w' => e = .returned (.bool true) ∧ Below w.heap.size w w' := by
  have HN := Lib.hid hn
  have HA := Lib.hid ha
  have HC := Lib.hid fun X bn bp bc br (h : AwV X bn bp bc br) hn => check1 X bn bp bc br s hs h hn
  have HL := Lib.hid fun X bn bp bc br (h : AwV X bn bp bc br) hn => clean1 X bn bp bc br s hs h hn
  have HZ := Lib.hid clean0
  have HU := Lib.hid usageAw
  have HM := Lib.hid fun v1 v2 (w : World) (h1 : IntsAt w v1 [6]) (h2 : IntsAt w v2 [6]) => same01_any v1 v2 [6] [6] w (by decide) (by decide) h1 h2
  have HT := Lib.hid fun (w : World) (h : w.cell? ⟨0, 5, none⟩ = some (.string ⟨#[116, 119, 105, 99, 101]⟩)) => auditName_in 5 _ w (by omega) h
  have HO := Lib.hid of_nil
  have hq := eqlProb 1 7 1 7
  have hq5 := eqlTwice
  have hq6 := field2
  rw [show ((1 : Int) == 1 && (7 : Int) == 7) = true from rfl] at hq
  clear hn ha
  go_enter Tryz.func4, Tryz.ntmps4
  go_wp2_with fail
  refine calls_named fun X hX => ?_
  have F0 : From w X := by rw [hX]; exact (((((((From.refl w).alloc _).alloc _).alloc _).alloc _).alloc _).alloc _).alloc _
  have HV : Hid (AwV X (w.heap.size + 1 + 1 + 1 + 1) (w.heap.size + 1 + 1 + 1 + 1 + 1) (w.heap.size + 1 + 1 + 1) w.heap.size) := by
    rw [hX]
    exact ⟨by go_simp, by go_simp, by go_simp, by go_simp, by go_simp, by go_simp, by go_simp, by go_simp, by go_simp, by go_simp, by go_simp, by go_simp, by go_simp, by go_simp, by go_simp, by go_simp, by go_simp, by go_simp, by go_simp, by go_simp, by go_simp, by go_simp⟩
  have e0 : X.cell? ⟨w.heap.size + 1 + 1 + 1 + 1 + 1 + 1, 0, none⟩ = some (.int .i64 1) := by rw [hX]; go_simp
  have e1 : X.cell? ⟨w.heap.size + 1 + 1 + 1 + 1 + 1 + 1, 1, none⟩ = some (.slice (some ⟨w.heap.size + 1 + 1 + 1 + 1, 0, none⟩) 1 1) := by rw [hX]; go_simp
  have e2 : X.cell? ⟨w.heap.size + 1 + 1 + 1 + 1 + 1 + 1, 2, none⟩ = some (.slice (some ⟨w.heap.size + 1 + 1 + 1 + 1 + 1, 0, none⟩) 2 2) := by rw [hX]; go_simp
  have e3 : X.cell? ⟨w.heap.size + 1 + 1 + 1 + 1 + 1 + 1, 3, none⟩ = some (.slice none 0 0) := by rw [hX]; go_simp
  have e4 : X.cell? ⟨w.heap.size + 1 + 1 + 1 + 1 + 1 + 1, 4, none⟩ = some (.slice none 0 0) := by rw [hX]; go_simp
  clear hX
  have HF := Lib.hid F0
  clear F0
  generalize w.heap.size + 1 + 1 + 1 + 1 + 1 = bp at *
  generalize w.heap.size + 1 + 1 + 1 + 1 = bn at *
  generalize w.heap.size + 1 + 1 + 1 = bc at *
  refine (HC.out _ _ _ _ _ HV.out (HF.out.cell HN.out)).mono ?_
  rintro e W1 ⟨bl, cl, rfl, hl0, hl1, hb⟩
  have F1 : From X W1 := ⟨hb⟩
  have e0 := F1.cell e0
  have e1 := F1.cell e1
  have e2 := F1.cell e2
  have e3 := F1.cell e3
  have e4 := F1.cell e4
  have HV := Lib.hid (HV.out.below F1.out)
  have HF := Lib.hid (HF.out.trans F1)
  clear hb F1
  go_wp2_with fail
  refine (HL.out _ _ _ _ _ HV.out (HF.out.cell HN.out)).mono ?_
  rintro e W2 ⟨rfl, hb⟩
  clear hl0 hl1
  have F2 : From W1 W2 := ⟨hb⟩
  have e0 := F2.cell e0
  have e1 := F2.cell e1
  have e2 := F2.cell e2
  have e3 := F2.cell e3
  have e4 := F2.cell e4
  have HV := Lib.hid (HV.out.below F2.out)
  have HF := Lib.hid (HF.out.trans F2)
  clear hb F2
  go_wp2_with fail
  refine (HZ.out _).mono ?_
  rintro e W3 ⟨rfl, hb⟩
  have F3 : From W2 W3 := ⟨hb⟩
  have e0 := F3.cell e0
  have e1 := F3.cell e1
  have e2 := F3.cell e2
  have e3 := F3.cell e3
  have e4 := F3.cell e4
  have HV := Lib.hid (HV.out.below F3.out)
  have HF := Lib.hid (HF.out.trans F3)
  clear hb F3
  go_wp2_with fail
  refine (HU.out _ _ _ _ _ HV.out).mono ?_
  rintro e W4 ⟨bu, ou, cu, rfl, -, hlt, hi, hb⟩
  have F4 : From W3 W4 := ⟨hb⟩
  have e0 := F4.cell e0
  have e1 := F4.cell e1
  have e2 := F4.cell e2
  have e3 := F4.cell e3
  have e4 := F4.cell e4
  have HV := Lib.hid (HV.out.below F4.out)
  have HF := Lib.hid (HF.out.trans F4)
  clear hb F4
  have HI := Lib.hid hi
  clear hi hlt
  go_wp2_with fail
  refine calls_named fun W5 hW5 => ?_
  have F5 : From W4 W5 := by rw [hW5]; exact (From.refl _).alloc _
  have h6 : IntsAt W5 (.slice (some ⟨W4.heap.size, 0, none⟩) 1 1) [6] := ⟨_, _, rfl, .inr ⟨_, 0, rfl, by rw [hW5]; simp, fun j hj => by
      match j, hj with
      | 0, _ => rw [hW5]; go_simp⟩⟩
  clear hW5
  refine (HM.out _ _ _ (HI.out.below F5.out) h6).mono ?_
  rintro e W6 ⟨rfl, hb⟩
  rw [show (([6] : List Int) == [6]) = true from rfl]
  have F6 : From w W6 := (HF.out.trans F5).step hb
  have HF := Lib.hid F6
  have ha6 := F6.cell HA.out
  clear F6 F5 h6 hb e0 e1 e2 e3 e4 HI HV
  go_wp2_with fail
  refine (HT.out _ ha6).mono ?_
  rintro e W7 ⟨rfl, rfl⟩
  go_wp2_with fail
  refine (HO.out _).mono ?_
  rintro e W8 ⟨rfl, hf⟩
  have HZ := Lib.hid (HF.out.trans hf)
  clear hf ha6
  go_wp2
  go_ret
  exact ⟨rfl, HZ.out.out⟩
end Go.Proofs.YtkdmjpakpmnhgaaGreatDoor
