/- hammocklaw03.awake. -/
import Derived.Test.YtcegipkhmibdeaaDoorCode03
import Derived.Deep.RegionWith
import Derived.Deep.RegionHeld3
import Derived.Deep.DeepFit
namespace Go.Proofs.YtcegipkhmibdeaaDoor
set_option linter.all false
open Go.RowKit

theorem field5 (k i c n : Int) (f : Bool) (a : Option Addr) (l cp : Nat) (w : World) : (Instr.field 41 (.agg #[.int .i64 k, .int .i64 i, .int .i64 c, .int .i64 n, .bool f, .slice a l cp]) 5).run Tryd.prog w = .ok (.slice a l cp) w := by kernel_rfl
set_option maxHeartbeats 4000000 in
set_option maxRecDepth 100000 in
theorem awake03_any (w : World) (hE : ErrType w) : Calls Tryd.prog 35 #[] w fun r w' => r = .returned (.bool true) ∧ Below w.heap.size w w' := by
  have hI : IntsAt (w.alloc (.cells #[.int .i64 3, .int .i64 4] 2)) (.slice (some ⟨w.heap.size, 0, none⟩) 2 2) [3, 4] :=
    ⟨_, _, rfl, .inr ⟨w.heap.size, 0, rfl, by simp, fun j hj => by
      match j, hj with
      | 0, _ => go_simp
      | 1, _ => go_simp⟩⟩
  have HP := Lib.hid (make_pod 1 2 5 (.slice (some ⟨w.heap.size, 0, none⟩) 2 2) [3, 4] (w.alloc (.cells #[.int .i64 3, .int .i64 4] 2)) (by decide) hI)
  go_enter Tryd.func35, Tryd.ntmps35
  go_wp2_with fail
  refine HP.out.mono ?_
  rintro e w1 ⟨a, cp, rfl, hown, hb⟩
  have hB1 : Below w.heap.size w w1 := ((Below.refl _ w).alloc (Nat.le_refl _) _).trans (hb.mono (by simp))
  have hi1 := ints_of_row hown
  have hE1 := hE.below hB1
  clear hI hown HP hb
  obtain ⟨w2, hw2⟩ : ∃ w2, w2 = (w1.alloc (.cells #[.int .i64 4, .int .i64 1, .int .i64 2, .int .i64 5, .bool false, .slice a 2 cp] 41)) := ⟨_, rfl⟩
  have hB2 : Below w1.heap.size w1 w2 := by rw [hw2]; exact (Below.refl _ w1).alloc (Nat.le_refl _) _
  have hlt : w1.heap.size < w2.heap.size := by rw [hw2]; simp
  have p0 : w2.cell? ⟨w1.heap.size, 0, none⟩ = some (.int .i64 4) := by rw [hw2]; go_simp
  have p1 : w2.cell? ⟨w1.heap.size, 1, none⟩ = some (.int .i64 1) := by rw [hw2]; go_simp
  have p2 : w2.cell? ⟨w1.heap.size, 2, none⟩ = some (.int .i64 2) := by rw [hw2]; go_simp
  have p3 : w2.cell? ⟨w1.heap.size, 3, none⟩ = some (.int .i64 5) := by rw [hw2]; go_simp
  have p4 : w2.cell? ⟨w1.heap.size, 4, none⟩ = some (.bool false) := by rw [hw2]; go_simp
  have p5 : w2.cell? ⟨w1.heap.size, 5, none⟩ = some (.slice a 2 cp) := by rw [hw2]; go_simp
  have hi2 : IntsAt w2 (.slice a 2 cp) [3, 4] := hi1.below hB2
  have hE2 := hE1.below hB2
  have hW2 := Lib.hid hw2; clear hw2
  have k1 : checkE 4 1 2 5 [3, 4] 3 = some (.placed 4 (.fault 3 2)) := by rfl
  have k2 : checkE 4 1 2 5 [3, 4] 2 = none := by rfl
  have k3 : checkE 7 0 0 0 [] 2 = none := by rfl
  have hC1 := opCheck_any 4 1 2 5 false (.slice a 2 cp) [3, 4] 3
  rw [k1] at hC1
  have C1 := Lib.hid hC1; clear hC1
  have hC2 := opCheck_any 4 1 2 5 false (.slice a 2 cp) [3, 4] 2
  rw [k2] at hC2
  change ∀ w, _ → _ → Calls _ _ _ _ fun r w' => r = .returned .nilIface ∧ _ at hC2
  have C2 := Lib.hid hC2; clear hC2
  have hnil : ∀ w, IntsAt w (.slice none 0 0) [] := fun w => ⟨_, _, rfl, .inl rfl⟩
  have hC3 := fun w => opCheck_any 7 0 0 0 false (.slice none 0 0) [] 2 w (by decide) (hnil w)
  rw [k3] at hC3
  change ∀ w, Calls _ _ _ _ fun r w' => r = .returned .nilIface ∧ _ at hC3
  have C3 := Lib.hid hC3; clear hC3
  go_wp2_with fail
  rw [← hW2.out]
  refine (C1.out _ (by decide) hi2).mono ?_
  rintro e w3 ⟨rfl, hb3⟩
  have hE3 := hE2.below hb3
  have hF := faultAt_any (some (.placed 4 (.fault 3 2))) w3 hE3
  change Calls _ _ _ _ fun r w' => r = .returned (.tuple #[.int .i64 2, .bool true]) ∧ _ at hF
  have HF := Lib.hid hF; clear hF
  go_wp2_with fail
  refine HF.out.mono ?_
  rintro e w4 ⟨rfl, hb4⟩
  have hb4' : Below w2.heap.size w2 w4 := hb3.trans (hb4.mono hb3.size)
  clear hb3 hb4 hE3
  go_wp2
  have hi4 := hi2.below hb4'
  have hE4 := hE2.below hb4'
  have hlt4 : w1.heap.size < w4.heap.size := Nat.lt_of_lt_of_le hlt hb4'.size
  have q0 : w4.cell? ⟨w1.heap.size, 0, none⟩ = some (.int .i64 4) := (hb4'.cell (p := ⟨w1.heap.size, 0, none⟩) hlt).trans p0
  have q1 : w4.cell? ⟨w1.heap.size, 1, none⟩ = some (.int .i64 1) := (hb4'.cell (p := ⟨w1.heap.size, 1, none⟩) hlt).trans p1
  have q2 : w4.cell? ⟨w1.heap.size, 2, none⟩ = some (.int .i64 2) := (hb4'.cell (p := ⟨w1.heap.size, 2, none⟩) hlt).trans p2
  have q3 : w4.cell? ⟨w1.heap.size, 3, none⟩ = some (.int .i64 5) := (hb4'.cell (p := ⟨w1.heap.size, 3, none⟩) hlt).trans p3
  have q4 : w4.cell? ⟨w1.heap.size, 4, none⟩ = some (.bool false) := (hb4'.cell (p := ⟨w1.heap.size, 4, none⟩) hlt).trans p4
  have q5 : w4.cell? ⟨w1.heap.size, 5, none⟩ = some (.slice a 2 cp) := (hb4'.cell (p := ⟨w1.heap.size, 5, none⟩) hlt).trans p5
  have hlow : Below w.heap.size w w4 := (hB1.trans (hB2.mono hB1.size)).trans (hb4'.mono (Nat.le_trans hB1.size hB2.size))
  clear p0 p1 p2 p3 p4 p5 hi2 hE2 hi1 hE1 k1 k2 k3 hb4' hB2 hW2 hE hB1 hlt C1 HF
  have HK : Hid (∀ w' : World, Below w4.heap.size w4 w' → (w'.cell? ⟨w1.heap.size, 0, none⟩ = some (.int .i64 4) ∧ w'.cell? ⟨w1.heap.size, 1, none⟩ = some (.int .i64 1) ∧ w'.cell? ⟨w1.heap.size, 2, none⟩ = some (.int .i64 2) ∧ w'.cell? ⟨w1.heap.size, 3, none⟩ = some (.int .i64 5) ∧ w'.cell? ⟨w1.heap.size, 4, none⟩ = some (.bool false) ∧ w'.cell? ⟨w1.heap.size, 5, none⟩ = some (.slice a 2 cp))) := fun w' h => ⟨(h.cell (p := ⟨w1.heap.size, 0, none⟩) hlt4).trans q0, (h.cell (p := ⟨w1.heap.size, 1, none⟩) hlt4).trans q1, (h.cell (p := ⟨w1.heap.size, 2, none⟩) hlt4).trans q2, (h.cell (p := ⟨w1.heap.size, 3, none⟩) hlt4).trans q3, (h.cell (p := ⟨w1.heap.size, 4, none⟩) hlt4).trans q4, (h.cell (p := ⟨w1.heap.size, 5, none⟩) hlt4).trans q5⟩
  have hCO := fun w hE => code03_any (some (.placed 4 (.fault 3 2))) w hE
  change ∀ w, ErrType w → Calls _ _ _ _ fun r w' => r = .returned (.int .i64 3) ∧ _ at hCO
  have CO := Lib.hid hCO; clear hCO
  have CP : Hid (∀ w, [3, 4].length * 8 ≤ 140737488351232 → IntsAt w (.slice a 2 cp) [3, 4] → Calls Tryd.prog 36 #[opV 4 1 2 5 false (.slice a 2 cp)] w (RetOp w 4 1 2 5 false [3, 4])) := fun w h1 h2 => plain_any 4 1 2 5 false (.slice a 2 cp) [3, 4] w h1 h2
  have hCS := fun a' cp' w => opSame_any 4 1 2 5 false a 2 cp [3, 4] 4 1 2 5 false a' 2 cp' [3, 4] w
  change ∀ a' cp' w, _ → _ → _ → _ → Calls _ _ _ _ fun r w' => r = .returned (.bool true) ∧ _ at hCS
  have CS := Lib.hid hCS; clear hCS
  have hCT := fun w => opSame_any 6 0 0 1 false none 0 0 [] 6 0 0 2 false none 0 0 [] w (by decide) (by decide) (hnil w) (hnil w)
  clear hnil
  change ∀ w, Calls _ _ _ _ fun r w' => r = .returned (.bool false) ∧ _ at hCT
  have CT := Lib.hid hCT; clear hCT
  have CL := Lib.hid (fun w => opClone_any 4 1 2 5 false (.slice a 2 cp) [3, 4] w)
  have hv0 : Below w4.heap.size w4 w4.drew := (Below.refl _ w4).drew
  have hf5 := field5 4 1 2 5 false
  go_region_held3 (fun w' => w'.cell? ⟨w1.heap.size, 0, none⟩ = some (.int .i64 4) ∧ w'.cell? ⟨w1.heap.size, 1, none⟩ = some (.int .i64 1) ∧ w'.cell? ⟨w1.heap.size, 2, none⟩ = some (.int .i64 2) ∧ w'.cell? ⟨w1.heap.size, 3, none⟩ = some (.int .i64 5) ∧ w'.cell? ⟨w1.heap.size, 4, none⟩ = some (.bool false) ∧ w'.cell? ⟨w1.heap.size, 5, none⟩ = some (.slice a 2 cp))
    (first
      | exact HK.out _ hv10
      | exact HK.out _ hv9
      | exact HK.out _ hv8
      | exact HK.out _ hv7
      | exact HK.out _ hv6
      | exact HK.out _ hv5
      | exact HK.out _ hv4
      | exact HK.out _ hv3
      | exact HK.out _ hv2
      | exact HK.out _ hv1
      | go_keep)
    (first
    | (go_at_call 43; ((with_reducible refine (C2.out _ (by decide) (hi4.below hv0)).mono ?_)); rintro e v1 ⟨rfl, hb⟩; have hv1 : Below w4.heap.size w4 v1 := hv0.trans (hb.mono hv0.size); clear hb)
    | (go_at_call 44; ((with_reducible refine (CO.out _ (hE4.below hv1)).mono ?_)); rintro e v2 ⟨rfl, hb⟩; have hv2 : Below w4.heap.size w4 v2 := hv1.trans (hb.mono hv1.size); clear hb)
    | (go_at_call 36; ((with_reducible refine (CP.out _ (by decide) (hi4.below hv2)).mono ?_)); rintro e v3 ⟨a5, cp5, rfl, hown, hb⟩; have hv3 : Below w4.heap.size w4 v3 := hv2.trans (hb.mono hv2.size); have hi5 := ints_of_row hown; clear hown; clear hb)
    | (go_at_call 40; ((with_reducible refine (CS.out _ _ _ (by decide) (by decide) (hi4.below hv3) hi5).mono ?_)); rintro e v4 ⟨rfl, hb⟩; have hv4 : Below w4.heap.size w4 v4 := hv3.trans (hb.mono hv3.size); clear hb)
    | (go_at_call 52; ((with_reducible refine (make_cycle _).mono ?_)); rintro e v5 ⟨rfl, hb⟩; have hv5 : Below w4.heap.size w4 v5 := hv4.trans (hb.mono hv4.size); clear hb)
    | (go_at_call 43; ((with_reducible refine (C3.out _).mono ?_)); rintro e v6 ⟨rfl, hb⟩; have hv6 : Below w4.heap.size w4 v6 := hv5.trans (hb.mono hv5.size); clear hb)
    | (go_at_call 51; ((with_reducible refine (make_tick 1 _).mono ?_)); rintro e v7 ⟨rfl, hb⟩; have hv7 : Below w4.heap.size w4 v7 := hv6.trans (hb.mono hv6.size); clear hb)
    | (go_at_call 51; ((with_reducible refine (make_tick 2 _).mono ?_)); rintro e v8 ⟨rfl, hb⟩; have hv8 : Below w4.heap.size w4 v8 := hv7.trans (hb.mono hv7.size); clear hb)
    | (go_at_call 40; ((with_reducible refine (CT.out _).mono ?_)); rintro e v9 ⟨rfl, hb⟩; have hv9 : Below w4.heap.size w4 v9 := hv8.trans (hb.mono hv8.size); clear hb)
    | (go_at_call 42; ((with_reducible refine (CL.out _ (by decide) (hi4.below hv9)).mono ?_)); rintro e v10 ⟨a6, cp6, rfl, -, hb⟩; unfold opV; have hv10 : Below w4.heap.size w4 v10 := hv9.trans (hb.mono hv9.size); clear hb))
  go_wp2
  go_ret
  exact ⟨rfl, hlow.trans (hv10.mono hlow.size)⟩
end Go.Proofs.YtcegipkhmibdeaaDoor
