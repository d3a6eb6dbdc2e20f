/- hammocklaw24.awake. -/
import Derived.Test.YtdclokpoeaehlaaGreatDoorLogR
import Derived.Test.YtdclokpoeaehlaaGreatDoorLogF
namespace Go.Proofs.YtdclokpoeaehlaaGreatDoor
set_option linter.all false
open Go.RowKit

theorem itoa_one (d : Nat) (h : d < 10) : Lib.itoa (d : Int) = [UInt8.ofNat (48 + d)] := by rw [itoa_nat, decDigits_small h]
theorem line_1 : dline ⟨6, 1, 7, 15⟩ = [101, 118, 105, 99, 116, 115, 32, 49, 32, 55, 32, 49, 53] ∧ lined ⟨6, 1, 7, 15⟩ = true := by
  have h1 : Lib.itoa 1 = [49] := itoa_one 1 (by omega)
  have h7 : Lib.itoa 7 = [55] := itoa_one 7 (by omega)
  have h15 : Lib.itoa 15 = [49, 53] := by rw [show (15 : Int) = ((15 : Nat) : Int) from rfl, itoa_nat, decDigits_big (by omega), decDigits_small (by omega)]; rfl
  have hl : lined ⟨6, 1, 7, 15⟩ = true := by decide
  refine ⟨?_, hl⟩
  unfold dline
  rw [if_pos hl]
  simp only [dword]
  rw [if_neg (by decide), if_neg (by decide), if_neg (by decide), h1, h7, h15]
  decide
theorem line_2 : dline ⟨4, -1, -1, 3⟩ = [105, 100, 108, 101, 32, 45, 32, 45, 32, 51] ∧ lined ⟨4, -1, -1, 3⟩ = true := by
  have h3 : Lib.itoa 3 = [51] := itoa_one 3 (by omega)
  have hl : lined ⟨4, -1, -1, 3⟩ = true := by decide
  refine ⟨?_, hl⟩
  unfold dline
  rw [if_pos hl]
  simp only [dword]
  rw [if_pos (by decide), if_neg (by decide), h3]
  decide
theorem num_1 : num [49] = some 1 := by rw [← refNum_num]; decide +kernel
theorem num_2 : num [50] = some 2 := by rw [← refNum_num]; decide +kernel
theorem num_3 : num [51] = some 3 := by rw [← refNum_num]; decide +kernel
theorem num_m1 : num [45, 49] = some (-1) := by rw [← refNum_num]; decide +kernel
theorem dv_1 : dvalue [49] = some 1 := by unfold dvalue; rw [if_neg (by decide), num_1]; rfl
theorem dv_2 : dvalue [50] = some 2 := by unfold dvalue; rw [if_neg (by decide), num_2]; rfl
theorem dv_3 : dvalue [51] = some 3 := by unfold dvalue; rw [if_neg (by decide), num_3]; rfl
theorem dv_m1 : dvalue [45, 49] = none := by unfold dvalue; rw [if_neg (by decide), num_m1]; rfl
theorem parse_1 : dparse [105, 100, 108, 101, 32, 45, 32, 45, 32, 51] = some ⟨4, -1, -1, 3⟩ := by
  have h : Lib.split [105, 100, 108, 101, 32, 45, 32, 45, 32, 51] [32] = [[105, 100, 108, 101], [45], [45], [51]] := by decide +kernel
  rw [dparse_some h (by decide) dv_dash dv_dash dv_3]; decide
theorem parse_2 : dparse [105, 100, 108, 101, 32, 45, 49, 32, 45, 32, 51] = none := by
  have h : Lib.split [105, 100, 108, 101, 32, 45, 49, 32, 45, 32, 51] [32] = [105, 100, 108, 101] :: [[45, 49], [45], [51]] := by decide +kernel
  exact dparse_val h (j := 0) rfl dv_m1
theorem parse_3 : dparse [119, 97, 105, 116, 115, 32, 49, 32, 50, 32, 51] = some ⟨9, 1, 2, 3⟩ := by
  have h : Lib.split [119, 97, 105, 116, 115, 32, 49, 32, 50, 32, 51] [32] = [[119, 97, 105, 116, 115], [49], [50], [51]] := by decide +kernel
  rw [dparse_some h (by decide) dv_1 dv_2 dv_3]; decide
def readText : List UInt8 := [119, 97, 105, 116, 115, 32, 49, 32, 50, 32, 51, 44, 32, 105, 100, 108, 101, 32, 45, 32, 45, 32, 51]
theorem read_1 : dread readText = some [⟨9, 1, 2, 3⟩, ⟨4, -1, -1, 3⟩] := by
  have h : Lib.split readText [44, 32] = [[119, 97, 105, 116, 115, 32, 49, 32, 50, 32, 51], [105, 100, 108, 101, 32, 45, 32, 45, 32, 51]] := by decide +kernel
  unfold dread
  rw [if_neg (by decide), h]
  simp only [dparses, parse_1, parse_3]
  rfl
set_option maxHeartbeats 8000000 in
set_option maxRecDepth 100000 in
theorem awake24_any (w : World) (hW : LogW w) : Calls Tryz.prog 14 #[] w fun r w' => r = .returned (.bool true) ∧ Below w.heap.size w w' := by
  have H1 : Hid (∀ w', From w w' → Calls Tryz.prog 17 #[.agg #[.int .i64 6, .int .i64 1, .int .i64 7, .int .i64 15]] w' fun e w'' => e = .returned (.tuple #[.string ⟨#[101, 118, 105, 99, 116, 115, 32, 49, 32, 55, 32, 49, 53]⟩, .bool true]) ∧ Below w'.heap.size w' w'') := fun w' hf => by
    have h := line_any ⟨6, 1, 7, 15⟩ w' (hW.from_ hf).tabs (hW.from_ hf).names
    rw [line_1.1, line_1.2] at h; exact h
  have H2 : Hid (∀ w', From w w' → Calls Tryz.prog 17 #[.agg #[.int .i64 4, .int .i64 (-1), .int .i64 (-1), .int .i64 3]] w' fun e w'' => e = .returned (.tuple #[.string ⟨#[105, 100, 108, 101, 32, 45, 32, 45, 32, 51]⟩, .bool true]) ∧ Below w'.heap.size w' w'') := fun w' hf => by
    have h := line_any ⟨4, -1, -1, 3⟩ w' (hW.from_ hf).tabs (hW.from_ hf).names
    rw [line_2.1, line_2.2] at h; exact h
  have H3 : Hid (∀ w', From w w' → Calls Tryz.prog 19 #[.string ⟨#[105, 100, 108, 101, 32, 45, 32, 45, 32, 51]⟩] w' fun e w'' => e = .returned (.tuple #[.agg #[.int .i64 4, .int .i64 (-1), .int .i64 (-1), .int .i64 3], .bool true]) ∧ Below w'.heap.size w' w'') := fun w' hf => by
    have h := lparse_any ⟨#[105, 100, 108, 101, 32, 45, 32, 45, 32, 51]⟩ w' (by decide) (hW.from_ hf).tabs (hW.from_ hf).names
    have e := parse_some parse_1
    rw [show (⟨#[105, 100, 108, 101, 32, 45, 32, 45, 32, 51]⟩ : ByteArray).data.toList = [105, 100, 108, 101, 32, 45, 32, 45, 32, 51] from rfl, e.1, e.2] at h; exact h
  have H4 : Hid (∀ w', From w w' → Calls Tryz.prog 19 #[.string ⟨#[105, 100, 108, 101, 32, 45, 49, 32, 45, 32, 51]⟩] w' fun e w'' => e = .returned (.tuple #[.agg #[.int .i64 0, .int .i64 0, .int .i64 0, .int .i64 0], .bool false]) ∧ Below w'.heap.size w' w'') := fun w' hf => by
    have h := lparse_any ⟨#[105, 100, 108, 101, 32, 45, 49, 32, 45, 32, 51]⟩ w' (by decide) (hW.from_ hf).tabs (hW.from_ hf).names
    have e := parse_none parse_2
    rw [show (⟨#[105, 100, 108, 101, 32, 45, 49, 32, 45, 32, 51]⟩ : ByteArray).data.toList = [105, 100, 108, 101, 32, 45, 49, 32, 45, 32, 51] from rfl, e.1, e.2] at h; exact h
  have H5 : Hid (∀ w', From w w' → Calls Tryz.prog 21 #[.string ⟨#[119, 97, 105, 116, 115, 32, 49, 32, 50, 32, 51, 44, 32, 105, 100, 108, 101, 32, 45, 32, 45, 32, 51]⟩] w' fun e w'' => ∃ v, e = .returned (.tuple #[v, .bool true]) ∧ kDec.Own w'.heap.size w'' v [⟨9, 1, 2, 3⟩, ⟨4, -1, -1, 3⟩] ∧ Below w'.heap.size w' w'') := fun w' hf => by
    have h := lread_any (str readText) w' (by decide) (hW.from_ hf).tabs (hW.from_ hf).names
    have e : readD readText = [⟨9, 1, 2, 3⟩, ⟨4, -1, -1, 3⟩] ∧ readB readText = true := by unfold readD readB; rw [read_1]; exact ⟨rfl, rfl⟩
    rw [show (str readText).data.toList = readText from rfl, e.1, e.2] at h; exact h
  have H6 : Hid (∀ w', From w w' → Calls Tryz.prog 24 #[.slice none 0 0, .nilIface] w' fun e w'' => e = .returned (.string ⟨#[110, 111, 110, 101]⟩) ∧ Below w'.heap.size w' w'') := fun w' hf => lanswer_any (.slice none 0 0) [] w' (by simp) (Kin.Own.nil kDec 0 w').at_ (hW.from_ hf).tabs (hW.from_ hf).names
  have H7 : Hid (∀ w', From w w' → Calls Tryz.prog 24 #[.slice none 0 0, .iface 113 (.agg #[.int .i64 7, .int .i64 1])] w' fun e w'' => e = .returned (.string ⟨#[101, 114, 114, 111, 114, 32, 102, 117, 108, 108]⟩) ∧ Below w'.heap.size w' w'') := fun w' hf => lanswer_err (.slice none 0 0) (.fault 7 1) w' (hW.from_ hf).err (hW.from_ hf).codes
  have H8 : Hid (∀ w' v, kDec.At w' v [⟨9, 1, 2, 3⟩, ⟨4, -1, -1, 3⟩] → Calls Tryz.prog 26 #[v, .int .i64 4] w' fun e w'' => e = .returned (.int .i64 1) ∧ Below w'.heap.size w' w'') := fun w' v h => count_any v _ 4 w' (by simp) h
  have H9 : Hid (∀ w' v, kDec.At w' v [⟨9, 1, 2, 3⟩, ⟨4, -1, -1, 3⟩] → Calls Tryz.prog 27 #[v, .int .i64 1] w' fun e w'' => ∃ v', e = .returned v' ∧ kDec.Own w'.heap.size w'' v' [⟨9, 1, 2, 3⟩] ∧ Below w'.heap.size w' w'') := fun w' v h => about_any v _ 1 w' (by simp) h
  have H10 : Hid (∀ w', From w w' → Calls Tryz.prog 15 #[.int .i64 12] w' fun e w'' => e = .returned (.string ⟨#[]⟩) ∧ w' = w'') := fun w' hf => lname_any 12 w' (hW.from_ hf).names
  have HN := Lib.hid faultNew_any
  have HE := eqlDec ⟨4, -1, -1, 3⟩ ⟨4, -1, -1, 3⟩
  rw [show decB ⟨4, -1, -1, 3⟩ ⟨4, -1, -1, 3⟩ = true from rfl] at HE
  have F0 := From.refl w
  clear hW
  go_enter Tryz.func14, Tryz.ntmps14
  go_wp2_with fail
  refine (H1.out _ F0).mono ?_
  rintro e w1 ⟨rfl, hb⟩
  have F1 := F0.step hb
  clear hb
  go_wp2_with fail
  refine (H2.out _ F1).mono ?_
  rintro e w2 ⟨rfl, hb⟩
  have F2 := F1.step hb
  clear hb
  go_wp2_with fail
  refine (H3.out _ F2).mono ?_
  rintro e w3 ⟨rfl, hb⟩
  have F3 := F2.step hb
  clear hb
  go_wp2_with fail
  refine calls_named fun W3 hW3 => ?_
  have FA : From w W3 := by rw [hW3]; exact F3.alloc _
  have n0 : W3.cell? ⟨w3.heap.size, 0, none⟩ = some (.int .i64 4) := by rw [hW3]; go_simp
  have n1 : W3.cell? ⟨w3.heap.size, 1, none⟩ = some (.int .i64 (-1)) := by rw [hW3]; go_simp
  have n2 : W3.cell? ⟨w3.heap.size, 2, none⟩ = some (.int .i64 (-1)) := by rw [hW3]; go_simp
  have n3 : W3.cell? ⟨w3.heap.size, 3, none⟩ = some (.int .i64 3) := by rw [hW3]; go_simp
  clear hW3
  refine (H4.out _ FA).mono ?_
  rintro e w4 ⟨rfl, hb⟩
  have FB : From W3 w4 := ⟨hb⟩
  clear hb
  go_wp2_with fail
  refine calls_named fun W4 hW4 => ?_
  have FC : From W3 W4 := by rw [hW4]; exact FB.alloc _
  clear hW4
  refine (H5.out _ (FA.trans FC)).mono ?_
  rintro e w5 ⟨v, rfl, hown, hb⟩
  have FD : From W3 w5 := FC.step hb
  have m0 := FD.cell n0
  have m1 := FD.cell n1
  have m2 := FD.cell n2
  have m3 := FD.cell n3
  have hat := hown.at_
  have F5 := FA.trans FD
  obtain ⟨ao, co, rfl⟩ := hown.shape
  clear hb hown n0 n1 n2 n3
  have HA := Lib.hid hat
  clear hat
  simp only [List.length_cons, List.length_nil, Nat.zero_add, Nat.reduceAdd]
  go_wp2_with fail
  refine (H6.out _ F5).mono ?_
  rintro e w6 ⟨rfl, hb⟩
  have G6 : From w5 w6 := ⟨hb⟩
  clear hb
  go_wp2_with fail
  refine (HN.out 7 1 _).mono ?_
  rintro e w7 ⟨rfl, rfl⟩
  go_wp2_with fail
  refine (H7.out _ (F5.trans G6)).mono ?_
  rintro e w8 ⟨rfl, hb⟩
  have G8 := G6.step hb
  clear hb
  go_wp2_with fail
  refine (H8.out _ _ (HA.out.below G8.out)).mono ?_
  rintro e w9 ⟨rfl, hb⟩
  have G9 := G8.step hb
  clear hb
  go_wp2_with fail
  refine (H9.out _ _ (HA.out.below G9.out)).mono ?_
  rintro e w10 ⟨v', rfl, hown, hb⟩
  have G10 := G9.step hb
  obtain ⟨ao', co', rfl⟩ := hown.shape
  clear hb hown
  simp only [List.length_cons, List.length_nil, Nat.zero_add]
  go_wp2_with fail
  refine (H10.out _ (F5.trans G10)).mono ?_
  rintro e w11 ⟨rfl, rfl⟩
  go_wp2
  go_ret
  exact ⟨rfl, (F5.trans G10).out⟩
end Go.Proofs.YtdclokpoeaehlaaGreatDoor
