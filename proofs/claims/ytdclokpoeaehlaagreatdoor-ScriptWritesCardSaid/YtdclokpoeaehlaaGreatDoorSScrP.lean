/- hammocklaw04.awake. -/
import Derived.Test.YtdclokpoeaehlaaGreatDoorGt
namespace Go.Proofs.YtdclokpoeaehlaaGreatDoor
set_option linter.all false
open Go.RowKit

set_option maxHeartbeats 8000000 in
set_option maxRecDepth 100000 in
theorem awake04_any (w : World) (hW : ScrW w) : Calls Tryz.prog 32 #[] w fun r w' => r = .returned (.bool true) ∧ Below w.heap.size w w' := by
  have H1 : Hid (∀ w' am, IntsAt w' am [3, 4] → Calls Tryz.prog 60 #[.int .i64 1, .int .i64 2, .int .i64 5, am] w' (RetOp w' 4 1 2 5 false [3, 4])) := fun w' am h => pod_any 1 2 5 am [3, 4] w' (by decide) h
  have H2 : Hid (∀ w' a cp, From w w' → IntsAt w' (.slice a 2 cp) [3, 4] → Calls Tryz.prog 37 #[opV 4 1 2 5 false (.slice a 2 cp)] w' fun e w'' => e = .returned (.tuple #[.string ⟨#[112, 111, 100, 32, 49, 32, 50, 32, 53, 32, 51, 32, 52]⟩, .bool true]) ∧ Below w'.heap.size w' w'') := fun w' a cp hf h => by
    have h1 := sline_any 4 1 2 5 false (.slice a 2 cp) [3, 4] w' (by decide) h (hW.from_ hf)
    unfold lineRet at h1
    rw [show (⟨4, 1, 2, 5, false, [3, 4]⟩ : OpS) = aPod from rfl, aw_pod.1, aw_pod.2] at h1
    exact h1
  have H3 := Lib.hid fun w' => class_any 1 (-2) true w'
  have H4 : Hid (∀ w', From w w' → Calls Tryz.prog 37 #[opV 1 1 0 (-2) true (.slice none 0 0)] w' fun e w'' => e = .returned (.tuple #[.string ⟨#[99, 108, 97, 115, 115, 32, 49, 32, 45, 50, 32, 121, 101, 115]⟩, .bool true]) ∧ Below w'.heap.size w' w'') := fun w' hf => by
    have h1 := sline_any 1 1 0 (-2) true (.slice none 0 0) [] w' (by decide) ⟨none, 0, rfl, .inl rfl⟩ (hW.from_ hf)
    unfold lineRet at h1
    rw [show (⟨1, 1, 0, -2, true, []⟩ : OpS) = aClass from rfl, aw_class.1, aw_class.2] at h1
    exact h1
  have H5 : Hid (∀ w', From w w' → Calls Tryz.prog 39 #[.string ⟨#[110, 111, 100, 101, 32, 51, 32, 55]⟩] w' fun e w'' => ∃ a cp, e = .returned (.tuple #[opV 2 3 0 0 false (.slice a 1 cp), .bool true]) ∧ IntsAt w'' (.slice a 1 cp) [7] ∧ Below w'.heap.size w' w'') := fun w' hf => by
    refine (sparse_any (str [110, 111, 100, 101, 32, 51, 32, 55]) w' (by decide) (hW.from_ hf)).mono ?_
    intro e w'' h
    obtain ⟨hb, a, cp, rfl, hi⟩ := h.ok aw_parse
    exact ⟨a, cp, rfl, hi.at_, hb⟩
  have H6 : Hid (∀ w', From w w' → Calls Tryz.prog 33 #[.string ⟨#[35, 32, 120, 10, 116, 105, 99, 107, 32, 53, 10, 10, 99, 121, 99, 108, 101, 10]⟩] w' fun e w'' => ∃ a cp, e = .returned (.tuple #[.slice a 2 cp, .nilIface]) ∧ Below w'.heap.size w' w'') := fun w' hf => by
    refine (sread_any (str awText) w' (by decide) (hW.from_ hf)).mono ?_
    intro e w'' h
    obtain ⟨hb, v, rfl, ho⟩ := h.ok aw_read
    obtain ⟨a, cp, rfl⟩ := ho.shape
    exact ⟨a, cp, rfl, hb⟩
  have H7 : Hid (∀ w', From w w' → Calls Tryz.prog 33 #[.string ⟨#[10, 120]⟩] w' fun e w'' => e = .returned (.tuple #[.slice none 0 0, .iface 113 (.agg #[.int .i64 9, .int .i64 1])]) ∧ Below w'.heap.size w' w'') := fun w' hf => by
    refine (sread_any (str [10, 120]) w' (by decide) (hW.from_ hf)).mono ?_
    intro e w'' h
    obtain ⟨hb, rfl⟩ := h.bad aw_bad
    exact ⟨rfl, hb⟩
  have H8 : Hid (∀ w', From w w' → Calls Tryz.prog 43 #[.string ⟨#[45, 55]⟩] w' fun e w'' => e = .returned (.tuple #[.int .i64 (-7), .bool true]) ∧ Below w'.heap.size w' w'') := fun w' hf => by
    have h := number_any [45, 55] w' (by decide) (hW.from_ hf).log.tabs
    have e1 : numI [45, 55] = -7 := by unfold numI; rw [aw_num]; rfl
    have e2 : numB [45, 55] = true := by unfold numB; rw [aw_num]; rfl
    rw [e1, e2] at h
    exact h
  have H9 := Lib.hid fun w' => tick_any 5 w'
  have H10 : Hid (∀ w', From w w' → Calls Tryz.prog 42 #[.slice (some ⟨w'.heap.size, 0, none⟩) 1 1] (w'.alloc (.cells #[.int .i64 6, .int .i64 0, .int .i64 0, .int .i64 5, .bool false, .slice none 0 0] 58)) fun e w'' => e = .returned (.tuple #[.string ⟨#[116, 105, 99, 107, 32, 53, 10]⟩, .nilIface]) ∧ Below w'.heap.size w' w'') := fun w' hf => by
    refine (swrite_any _ [aTick] _ (by decide) (fun j hj => by
      have : j = 0 := by simp only [List.length_cons, List.length_nil] at hj; omega
      subst this; decide) (ops_one (X := w') aTick rfl) (hW.from_ (hf.alloc _))).mono ?_
    intro e w'' h
    have he := h.2.1 aw_write.1
    rw [aw_write.2] at he
    exact ⟨he, ((From.refl w').alloc _).out.trans (h.1.mono (by simp))⟩
  have H11 : Hid (∀ w' : World, Calls Tryz.prog 63 #[.int .i64 3, .slice (some ⟨w'.heap.size, 0, none⟩) 1 1] (w'.alloc (.cells #[.int .i64 7] 2)).drew (RetOp (w'.alloc (.cells #[.int .i64 7] 2)).drew 2 3 0 0 false [7])) := fun w' => node_any 3 _ [7] _ (by decide) ((ints_one 7).from_ (From.refl _).drew)
  have H12 : Hid (∀ w' a cp a' cp', IntsAt w' (.slice a 1 cp) [7] → IntsAt w' (.slice a' 1 cp') [7] → Calls Tryz.prog 36 #[opV 2 3 0 0 false (.slice a 1 cp), opV 2 3 0 0 false (.slice a' 1 cp')] w' fun r w'' => r = .returned (.bool true) ∧ Below w'.heap.size w' w'') := fun w' a cp a' cp' h h' => refEqual_any 2 3 0 0 false _ [7] 2 3 0 0 false _ [7] w' (by decide) (by decide) h h'
  have H13 : Hid (∀ w', From w w' → Calls Tryz.prog 35 #[.iface 113 (.agg #[.int .i64 9, .int .i64 1]), .int .i64 9, .int .i64 1] w' fun r w'' => r = .returned (.bool true) ∧ Below w'.heap.size w' w'') := fun w' hf => wrong_fault 9 1 9 1 w' (hW.from_ hf).log.err
  have F0 := From.refl w
  have HI0 := Lib.hid (ints_two (X := w) 3 4)
  clear hW
  go_enter Tryz.func32, Tryz.ntmps32
  go_wp2_with fail
  refine (H1.out _ _ HI0.out).mono ?_
  rintro e w1 ⟨a1, c1, rfl, hown, hb⟩
  have F1 := (F0.alloc (.cells #[.int .i64 3, .int .i64 4] 2)).step hb
  have HI1 := Lib.hid (ints_of_row hown)
  simp only [List.length_cons, List.length_nil, Nat.zero_add, Nat.reduceAdd] at HI1 ⊢
  clear hown hb
  go_wp2_with fail
  refine (H2.out _ _ _ F1 HI1.out).mono ?_
  rintro e w2 ⟨rfl, hb⟩
  have F2 := F1.step hb
  clear hb
  go_wp2_with fail
  refine (H3.out _).mono ?_
  rintro e w3 ⟨rfl, hb⟩
  have F3 := F2.step hb
  clear hb
  go_wp2_with fail
  refine (H4.out _ F3).mono ?_
  rintro e w4 ⟨rfl, hb⟩
  have F4 := F3.step hb
  clear hb
  go_wp2_with fail
  refine (H5.out _ F4).mono ?_
  rintro e w5 ⟨a5, c5, rfl, hi5, hb⟩
  have F5 := F4.step hb
  have HI5 := Lib.hid hi5
  clear hb hi5
  go_wp2_with fail
  refine calls_named fun W5 hW5 => ?_
  have G5 : From w5 W5 := by rw [hW5]; exact (From.refl w5).alloc _
  have n0 : W5.cell? ⟨w5.heap.size, 0, none⟩ = some (.int .i64 2) := by rw [hW5]; go_simp
  have n1 : W5.cell? ⟨w5.heap.size, 1, none⟩ = some (.int .i64 3) := by rw [hW5]; go_simp
  have n2 : W5.cell? ⟨w5.heap.size, 2, none⟩ = some (.int .i64 0) := by rw [hW5]; go_simp
  have n3 : W5.cell? ⟨w5.heap.size, 3, none⟩ = some (.int .i64 0) := by rw [hW5]; go_simp
  have n4 : W5.cell? ⟨w5.heap.size, 4, none⟩ = some (.bool false) := by rw [hW5]; go_simp
  have n5 : W5.cell? ⟨w5.heap.size, 5, none⟩ = some (.slice a5 1 c5) := by rw [hW5]; go_simp
  clear hW5
  refine (H6.out _ (F5.trans G5)).mono ?_
  rintro e w6 ⟨a6, c6, rfl, hb⟩
  have G6 : From W5 w6 := ⟨hb⟩
  clear hb
  go_wp2_with fail
  refine (H7.out _ ((F5.trans G5).trans G6)).mono ?_
  rintro e w7 ⟨rfl, hb⟩
  have G7 := G6.step hb
  clear hb
  go_wp2_with fail
  refine (H8.out _ ((F5.trans G5).trans G7)).mono ?_
  rintro e w8 ⟨rfl, hb⟩
  have G8 := G7.step hb
  clear hb
  go_wp2_with fail
  refine (H9.out _).mono ?_
  rintro e w9 ⟨rfl, hb⟩
  have G9 := G8.step hb
  clear hb
  go_wp2_with fail
  refine (H10.out w9 ((F5.trans G5).trans G9)).mono ?_
  rintro e W ⟨rfl, hb⟩
  have GW := G9.step hb
  clear hb
  have FW : Hid (From w W) := (F5.trans G5).trans GW
  have HI : Hid (∀ w', From W w' → IntsAt w' (.slice a5 1 c5) [7]) := fun w' hf => HI5.out.from_ ((G5.trans GW).trans hf)
  have HK : Hid (∀ w', From W w' → (w'.cell? ⟨w5.heap.size, 0, none⟩ = some (.int .i64 2) ∧ w'.cell? ⟨w5.heap.size, 1, none⟩ = some (.int .i64 3) ∧ w'.cell? ⟨w5.heap.size, 2, none⟩ = some (.int .i64 0) ∧ w'.cell? ⟨w5.heap.size, 3, none⟩ = some (.int .i64 0) ∧ w'.cell? ⟨w5.heap.size, 4, none⟩ = some (.bool false) ∧ w'.cell? ⟨w5.heap.size, 5, none⟩ = some (.slice a5 1 c5))) := fun w' hf =>
    ⟨(GW.trans hf).cell n0, (GW.trans hf).cell n1, (GW.trans hf).cell n2, (GW.trans hf).cell n3, (GW.trans hf).cell n4, (GW.trans hf).cell n5⟩
  have hv0 : From W W := From.refl W
  have hv1 : From W W.drew := hv0.drew
  have hv2 : From W (W.alloc (.cells #[.int .i64 7] 2)).drew := (hv0.alloc _).drew
  obtain ⟨m0, m1, m2, m3, m4, m5⟩ := HK.out W hv0
  clear n0 n1 n2 n3 n4 n5 F0 F1 F2 F3 F4 F5 G5 G6 G7 G8 G9 GW HI0 HI1 HI5 H1 H2 H3 H4 H5 H6 H7 H8 H9 H10
  go_wp2
  go_region_held3 (fun w' => w'.cell? ⟨w5.heap.size, 0, none⟩ = some (.int .i64 2) ∧ w'.cell? ⟨w5.heap.size, 1, none⟩ = some (.int .i64 3) ∧ w'.cell? ⟨w5.heap.size, 2, none⟩ = some (.int .i64 0) ∧ w'.cell? ⟨w5.heap.size, 3, none⟩ = some (.int .i64 0) ∧ w'.cell? ⟨w5.heap.size, 4, none⟩ = some (.bool false) ∧ w'.cell? ⟨w5.heap.size, 5, none⟩ = some (.slice a5 1 c5))
    (first
      | (with_reducible exact HK.out _ hv5)
      | (with_reducible exact HK.out _ hv4)
      | (with_reducible exact HK.out _ hv3)
      | (with_reducible exact HK.out _ hv2)
      | (with_reducible exact HK.out _ hv1)
      | (with_reducible exact HK.out _ hv0))
    (first
    | (go_at_call 63; ((with_reducible refine (H11.out _).mono ?_)); rintro e v3 ⟨a7, c7, rfl, hown, hb⟩; have hv3 : From W v3 := hv2.step hb; have hi7 := ints_of_row hown; clear hown hb)
    | (go_at_call 36; ((with_reducible refine (H12.out _ _ _ _ _ (HI.out _ hv3) hi7).mono ?_)); rintro e v4 ⟨rfl, hb⟩; have hv4 : From W v4 := hv3.step hb; clear hb)
    | (go_at_call 35; ((with_reducible refine (H13.out _ (FW.out.trans hv4)).mono ?_)); rintro e v5 ⟨rfl, hb⟩; have hv5 : From W v5 := hv4.step hb; clear hb))
  go_wp2
  go_ret
  exact ⟨rfl, (FW.out.trans hv5).out⟩
end Go.Proofs.YtdclokpoeaehlaaGreatDoor
