/- LogErrors: the walk. -/
import Derived.Test.YtdclokpoeaehlaaGreatDoorLogV
namespace Go.Proofs.YtdclokpoeaehlaaGreatDoor
set_option linter.all false
open Go.RowKit

set_option maxHeartbeats 4000000 in
set_option maxRecDepth 100000 in
theorem logErrors_far (a : Option Addr) (ca la : Nat) (code kind : Int) (text : ByteArray) (w : World) (h0 : 100 < la ∨ (la ≤ 100 ∧ 100 < text.size)) (HA : Hid (∀ w', From w w' → Calls Tryz.prog 14 #[] w' fun r w'' => r = .returned (.bool true) ∧ Below w'.heap.size w' w'')) :
    Calls Tryz.prog 8 #[.slice a la ca, .int .i64 code, .int .i64 kind, .string text] w fun e w' => e = .returned (.bool true) ∧ Below w.heap.size w w' := by
  have F0 := From.refl w
  rcases h0 with h0 | ⟨h0, h1⟩
  all_goals
    go_enter Tryz.func8, Tryz.ntmps8
    go_wp2_with fail
    refine (HA.out _ F0).mono ?_
    rintro e w1 ⟨rfl, hb⟩
    have F1 := F0.step hb
    clear hb
    go_wp2_with fail
    refine (HA.out _ F1).mono ?_
    rintro e w2 ⟨rfl, hb⟩
    have F2 := F1.step hb
    clear hb
    go_wp2
    go_ret
    exact ⟨rfl, F2.out⟩
theorem errRead (c : Int) : readB (str (sError ++ errName c)).data.toList = false := by
  have h : dread (str (sError ++ errName c)).data.toList = none := dread_error _ (errName_mem c)
  unfold readB; rw [h]; rfl
set_option maxHeartbeats 4000000 in
set_option maxRecDepth 100000 in
theorem logErrors_walk (v : Value) (xs : List Dec) (code kind : Int) (text : ByteArray) (w : World) (hx : xs.length * 32 ≤ 140737488351232) (h : kDec.At w v xs) (hs : text.size ≤ 140737488351232) (hW : LogW w) :
    Calls Tryz.prog 8 #[v, .int .i64 code, .int .i64 kind, .string text] w fun e w' => e = .returned (.bool true) ∧ Below w.heap.size w w' := by
  have HA : Hid (∀ w', From w w' → Calls Tryz.prog 14 #[] w' fun r w'' => r = .returned (.bool true) ∧ Below w'.heap.size w' w'') := fun w' hf => awake24_any w' (hW.from_ hf)
  obtain ⟨a, ca, rfl, -⟩ := h
  by_cases hfar : 100 < xs.length ∨ (xs.length ≤ 100 ∧ 100 < text.size)
  · exact logErrors_far a ca _ code kind text w hfar HA
  have h50 : xs.length ≤ 100 := by omega
  have h51 : text.size ≤ 100 := by omega
  have HN : Hid (∀ w', Calls Tryz.prog 29 #[.int .i64 code] w' fun e w'' => e = .returned (.string (codeName code)) ∧ Below w'.heap.size w' w'') := fun w' => rCodeName_any code w'
  have HI : Hid (∀ w', Calls Tryz.prog 30 #[.int .i64 kind, .iface 46 (.int .i64 code)] w' fun e w'' => e = .returned (.iface 88 (.agg #[.int .i64 kind, .iface 46 (.int .i64 code)])) ∧ w' = w'') := fun w' => faultIn_any kind (some (.code code)) w'
  have HE1 : Hid (∀ w', From w w' → Calls Tryz.prog 24 #[.slice a xs.length ca, .iface 88 (.agg #[.int .i64 kind, .iface 46 (.int .i64 code)])] w' fun r w'' => r = .returned (.string (str (sError ++ errName code))) ∧ Below w'.heap.size w' w'') := fun w' hf => lanswer_err _ (.placed kind (.code code)) w' (hW.from_ hf).err (hW.from_ hf).codes
  have HE2 : Hid (∀ w' p, From w w' → Calls Tryz.prog 24 #[.slice a xs.length ca, .iface 89 (.pointer (some p))] w' fun r w'' => r = .returned (.string ⟨#[101, 114, 114, 111, 114, 32, 111, 116, 104, 101, 114]⟩) ∧ Below w'.heap.size w' w'') := fun w' p hf => lanswer_err _ (.other p) w' (hW.from_ hf).err (hW.from_ hf).codes
  have HR : Hid (∀ w', From w w' → Calls Tryz.prog 21 #[.string (str (sError ++ errName code))] w' fun e w'' => ∃ v, e = .returned (.tuple #[v, .bool false]) ∧ Below w'.heap.size w' w'') := fun w' hf => by
    have hle := errName_le code
    refine (lread_any (str (sError ++ errName code)) w' (by rw [str_size]; simp [sError]; omega) (hW.from_ hf).tabs (hW.from_ hf).names).mono ?_
    rintro e w'' ⟨v, rfl, _, hb⟩
    rw [errRead]
    exact ⟨v, rfl, hb⟩
  have HX := Lib.hid errorsNew_any
  have hsum : ∀ w, (Op.stringOp .add ⟨#[101, 114, 114, 111, 114, 32]⟩ (str (errName code))).run Tryz.prog w = .ok (.string (str (sError ++ errName code))) w := fun w => add_str w sError _ (by have := errName_le code; simp [sError]; omega)
  have heq : ((str (sError ++ errName code)).toList == (str (sError ++ errName code)).toList) = true := by rw [beq_iff_eq]
  have hne : (codeName code).data.toList = [] ∧ errName code = sOther ∨ (codeName code).data.toList ≠ [] ∧ errName code = (codeName code).data.toList := by
    unfold errName
    by_cases h : (codeName code).data.toList = []
    · rw [if_pos h]; exact .inl ⟨h, rfl⟩
    · rw [if_neg h]; exact .inr ⟨h, rfl⟩
  generalize hnm : codeName code = nm at *
  have hoth : errName code = sOther → (⟨#[101, 114, 114, 111, 114, 32]⟩ : ByteArray) ++ ⟨#[111, 116, 104, 101, 114]⟩ = str (sError ++ errName code) ∧ ((str (sError ++ errName code)).toList == [101, 114, 114, 111, 114, 32, 111, 116, 104, 101, 114]) = true := fun h => by rw [h]; decide +kernel
  generalize hw0 : sError ++ errName code = full at *
  generalize errName code = en at *
  have F0 := From.refl w
  obtain ⟨la, hla⟩ : ∃ n, n = xs.length := ⟨_, rfl⟩
  rw [← hla] at h50 HE1 HE2 hfar hx ⊢
  clear hla hW hx hnm hw0 hfar
  rcases hne with ⟨h1, h2⟩ | ⟨h1, h2⟩
  · have hb : nm.toList.isEmpty = true := by rw [ByteArray.toList_eq, h1]; rfl
    obtain ⟨hcat, hlit⟩ := hoth h2
    clear h1 h2 hsum hoth
    go_enter Tryz.func8, Tryz.ntmps8
    go_wp2_with fail
    refine (HA.out _ F0).mono ?_
    rintro e w1 ⟨rfl, hb1⟩
    have F1 := F0.step hb1
    clear hb1
    go_wp2_with fail
    refine (HN.out _).mono ?_
    rintro e w2 ⟨rfl, hb1⟩
    have F2 := F1.step hb1
    clear hb1
    go_wp2_with fail
    refine (HI.out _).mono ?_
    rintro e w3 ⟨rfl, rfl⟩
    go_wp2_with fail
    refine (HE1.out _ F2).mono ?_
    rintro e w4 ⟨rfl, hb1⟩
    have F4 := F2.step hb1
    clear hb1
    go_wp2_with fail
    refine (HR.out _ F4).mono ?_
    rintro e w5 ⟨rv, rfl, hb1⟩
    have F5 := F4.step hb1
    clear hb1
    go_wp2_with fail
    refine (HX.out _ _).mono ?_
    rintro e w6 ⟨rfl, hb1⟩
    have F6 := F5.step hb1
    clear hb1
    go_wp2_with fail
    refine (HE2.out _ _ F6).mono ?_
    rintro e w7 ⟨rfl, hb1⟩
    have F7 := F6.step hb1
    clear hb1
    go_wp2
    go_ret
    exact ⟨by simp, F7.out⟩
  · have hb : nm.toList.isEmpty = false := by
      rw [ByteArray.toList_eq]
      cases hq : nm.data.toList with
      | nil => exact absurd hq h1
      | cons x r => rfl
    obtain rfl : nm = str en := by rw [h2]; rfl
    clear h1 h2 hoth
    go_enter Tryz.func8, Tryz.ntmps8
    go_wp2_with fail
    refine (HA.out _ F0).mono ?_
    rintro e w1 ⟨rfl, hb1⟩
    have F1 := F0.step hb1
    clear hb1
    go_wp2_with fail
    refine (HN.out _).mono ?_
    rintro e w2 ⟨rfl, hb1⟩
    have F2 := F1.step hb1
    clear hb1
    go_wp2_with fail
    refine (HI.out _).mono ?_
    rintro e w3 ⟨rfl, rfl⟩
    go_wp2_with fail
    refine (HE1.out _ F2).mono ?_
    rintro e w4 ⟨rfl, hb1⟩
    have F4 := F2.step hb1
    clear hb1
    go_wp2_with fail
    refine (HR.out _ F4).mono ?_
    rintro e w5 ⟨rv, rfl, hb1⟩
    have F5 := F4.step hb1
    clear hb1
    go_wp2_with fail
    refine (HX.out _ _).mono ?_
    rintro e w6 ⟨rfl, hb1⟩
    have F6 := F5.step hb1
    clear hb1
    go_wp2_with fail
    refine (HE2.out _ _ F6).mono ?_
    rintro e w7 ⟨rfl, hb1⟩
    have F7 := F6.step hb1
    clear hb1
    go_wp2
    go_ret
    exact ⟨by simp, F7.out⟩
end Go.Proofs.YtdclokpoeaehlaaGreatDoor
