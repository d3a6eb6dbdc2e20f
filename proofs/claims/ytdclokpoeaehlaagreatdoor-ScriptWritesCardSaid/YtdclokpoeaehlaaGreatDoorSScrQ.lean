/- ScriptNumbers, ScriptLines: the walks. -/
import Derived.Test.YtdclokpoeaehlaaGreatDoorSScrP
import Derived.Test.YtdclokpoeaehlaaGreatDoorGu
import Derived.Test.YtdclokpoeaehlaaGreatDoorGw
namespace Go.Proofs.YtdclokpoeaehlaaGreatDoor
set_option linter.all false
open Go.RowKit

set_option maxHeartbeats 4000000 in
set_option maxRecDepth 100000 in
theorem scriptNumbers_walk (s : ByteArray) (w : World) (hW : ScrW w) :
    Calls Tryz.prog 12 #[.string s] w fun e w' => e = .returned (.bool true) ∧ Below w.heap.size w w' := by
  have HA : Hid (∀ w', From w w' → Calls Tryz.prog 32 #[] w' fun r w'' => r = .returned (.bool true) ∧ Below w'.heap.size w' w'') := fun w' hf => awake04_any w' (hW.from_ hf)
  have F0 := From.refl w
  by_cases h200 : 200 < s.size
  · clear hW
    go_enter Tryz.func12, Tryz.ntmps12
    go_wp2_with fail
    refine (HA.out _ F0).mono ?_
    rintro e w1 ⟨rfl, hb⟩
    have F1 := F0.step hb
    clear hb
    go_wp2_with fail
    refine (HA.out _ F1).mono ?_
    rintro e w2 ⟨rfl, hb⟩
    have F2 := F1.step hb
    clear hb
    go_wp2
    go_ret
    exact ⟨rfl, F2.out⟩
  have hs : s.size ≤ 200 := by omega
  have H1 : Hid (∀ w', From w w' → Calls Tryz.prog 43 #[.string s] w' fun e w'' => e = .returned (.tuple #[.int .i64 (numI s.data.toList), .bool (numB s.data.toList)]) ∧ Below w'.heap.size w' w'') := fun w' hf => number_any s.data.toList w' (by rw [size_toList]; omega) (hW.from_ hf).log.tabs
  have H2 : Hid (∀ w', Calls Tryz.prog 44 #[.string s] w' fun e w'' => e = .returned (.tuple #[.int .i64 (numI s.data.toList), .bool (numB s.data.toList)]) ∧ w' = w'') := fun w' => rnumber_any s w'
  generalize numI s.data.toList = nI at *
  generalize numB s.data.toList = nB at *
  clear hW h200
  go_enter Tryz.func12, Tryz.ntmps12
  go_wp2_with fail
  refine (HA.out _ F0).mono ?_
  rintro e w1 ⟨rfl, hb⟩
  have F1 := F0.step hb
  clear hb
  go_wp2_with fail
  refine (H1.out _ F1).mono ?_
  rintro e w2 ⟨rfl, hb⟩
  have F2 := F1.step hb
  clear hb
  go_wp2_with fail
  refine (H2.out _).mono ?_
  rintro e w3 ⟨rfl, rfl⟩
  go_wp2
  go_ret
  exact ⟨by simp, F2.out⟩
theorem eqOp_refl (k i c n : Int) (f : Bool) (zs : List Int) : eqOp k i c n f zs k i c n f zs = true := by
  unfold eqOp
  simp
set_option maxHeartbeats 4000000 in
set_option maxRecDepth 100000 in
theorem scriptLines_walk (k i c n : Int) (f : Bool) (am : Value) (zs : List Int) (w : World) (hi : IntsAt w am zs) (hW : ScrW w) :
    Calls Tryz.prog 10 #[opV k i c n f am] w fun e w' => e = .returned (.bool true) ∧ Below w.heap.size w w' := by
  have HA : Hid (∀ w', From w w' → Calls Tryz.prog 32 #[] w' fun r w'' => r = .returned (.bool true) ∧ Below w'.heap.size w' w'') := fun w' hf => awake04_any w' (hW.from_ hf)
  have HI : Hid (∀ w', From w w' → IntsAt w' am zs) := fun w' hf => hi.from_ hf
  obtain ⟨a, cp, rfl, -⟩ := hi
  obtain ⟨l, hl⟩ : ∃ l, l = zs.length := ⟨_, rfl⟩
  have HL := Lib.hid hl
  rw [← hl] at HI ⊢
  clear hl
  obtain ⟨W0, hW0⟩ : ∃ W0, W0 = w.alloc (.cells #[.int .i64 k, .int .i64 i, .int .i64 c, .int .i64 n, .bool f, .slice a l cp] 58) := ⟨_, rfl⟩
  have F0 : From w W0 := by rw [hW0]; exact (From.refl w).alloc _
  have hbox : Box6 W0 w.heap.size k i c n f (.slice a l cp) := by rw [hW0]; exact ⟨by go_simp, by go_simp, by go_simp, by go_simp, by go_simp, by go_simp⟩
  have HO : Hid (∀ w', From W0 w' → Box6 w' w.heap.size k i c n f (.slice a l cp)) := fun w' hf => hbox.from_ hf
  have HFW := Lib.hid F0
  have HW := Lib.hid hW
  have G0 := From.refl W0
  clear hW hbox F0
  by_cases h100 : 100 < l
  · go_enter Tryz.func10, Tryz.ntmps10
    go_wp2_with fail
    rw [← hW0]
    clear hW0
    refine (HA.out _ HFW.out).mono ?_
    rintro e w1 ⟨rfl, hb⟩
    have F1 := G0.step hb
    obtain ⟨d0, d1, d2, d3, d4, d5⟩ := HO.out _ F1
    clear hb
    go_wp2_with fail
    refine (HA.out _ (HFW.out.trans F1)).mono ?_
    rintro e w2 ⟨rfl, hb⟩
    have F2 := F1.step hb
    clear hb
    go_wp2
    go_ret
    exact ⟨rfl, (HFW.out.trans F2).out⟩
  have hl100 : l ≤ 100 := by omega
  have H1 : Hid (∀ w', From W0 w' → Calls Tryz.prog 37 #[opV k i c n f (.slice a l cp)] w' (lineRet ⟨k, i, c, n, f, zs⟩ w')) := fun w' hf => sline_any k i c n f _ zs w' (by rw [← HL.out]; omega) (HI.out _ (HFW.out.trans hf)) (HW.out.from_ (HFW.out.trans hf))
  have H2 : Hid (∀ w', From W0 w' → Calls Tryz.prog 38 #[opV k i c n f (.slice a l cp)] w' (rlineRet ⟨k, i, c, n, f, zs⟩ w')) := fun w' hf => orline_any k i c n f _ zs w' (by rw [← HL.out]; omega) (HI.out _ (HFW.out.trans hf))
  have H3 : Hid (∀ w', From W0 w' → Calls Tryz.prog 39 #[.string (str (oline ⟨k, i, c, n, f, zs⟩))] w' (ParseRet (oline ⟨k, i, c, n, f, zs⟩) w')) := fun w' hf => sparse_any (str (oline ⟨k, i, c, n, f, zs⟩)) w' (by rw [str_size]; have := oline_len (o := ⟨k, i, c, n, f, zs⟩) (by show zs.length ≤ _; rw [← HL.out]; omega); omega) (HW.out.from_ (HFW.out.trans hf))
  have hpz : (pZ k zs).length ≤ 100 := by
    unfold pZ
    split
    · rw [← HL.out]; omega
    · simp
  unfold lineRet at H1
  unfold rlineRet at H2
  by_cases hok : olined ⟨k, i, c, n, f, zs⟩ = true
  · have hcode : ocode ⟨k, i, c, n, f, zs⟩ = 0 := by unfold olined at hok; exact of_decide_eq_true hok
    have hp : oparse (oline ⟨k, i, c, n, f, zs⟩) = some ⟨k, pI k i, pC k c, pN k n, pF k f, pZ k zs⟩ := oparse_line hok
    rw [hok] at H1
    rw [hcode] at H2
    have HP := Lib.hid hp
    have HPl : Hid (∀ w', From W0 w' → Calls Tryz.prog 40 #[opV k i c n f (.slice a l cp)] w' (RetOpR w' k (pI k i) (pC k c) (pN k n) (pF k f) (pA k (.slice a l cp)))) := fun w' hf => by
      have h := rplain_any k i c n f (.slice a l cp) zs w' (HI.out _ (HFW.out.trans hf))
      exact h
    have HPA : Hid (∀ w', From W0 w' → IntsAt w' (pA k (.slice a l cp)) (pZ k zs)) := fun w' hf => by
      unfold pA pZ
      split
      · exact HI.out _ (HFW.out.trans hf)
      · exact ⟨none, 0, rfl, .inl rfl⟩
    have HE : Hid (∀ w' v v', IntsAt w' v (pZ k zs) → IntsAt w' v' (pZ k zs) → Calls Tryz.prog 36 #[opV k (pI k i) (pC k c) (pN k n) (pF k f) v, opV k (pI k i) (pC k c) (pN k n) (pF k f) v'] w' fun r w'' => r = .returned (.bool true) ∧ Below w'.heap.size w' w'') := fun w' v v' h h' => by
      have h1 := refEqual_any k (pI k i) (pC k c) (pN k n) (pF k f) v (pZ k zs) k (pI k i) (pC k c) (pN k n) (pF k f) v' (pZ k zs) w' (by omega) (by omega) h h'
      rw [eqOp_refl] at h1
      exact h1
    obtain ⟨pa, pl, pc, hpa⟩ : ∃ pa pl pc, pA k (.slice a l cp) = .slice pa pl pc := by
      unfold pA; split
      · exact ⟨_, _, _, rfl⟩
      · exact ⟨_, _, _, rfl⟩
    rw [hpa] at HPl HPA
    clear hok hcode hp hpa
    generalize oline ⟨k, i, c, n, f, zs⟩ = x at *
    generalize pI k i = qi at *
    generalize pC k c = qc at *
    generalize pN k n = qn at *
    generalize pF k f = qf at *
    generalize pZ k zs = qz at *
    go_enter Tryz.func10, Tryz.ntmps10
    go_wp2_with fail
    rw [← hW0]
    clear hW0
    refine (HA.out _ HFW.out).mono ?_
    rintro e w1 ⟨rfl, hb⟩
    have F1 := G0.step hb
    obtain ⟨d0, d1, d2, d3, d4, d5⟩ := HO.out _ F1
    clear hb
    go_wp2_with fail
    refine (H1.out _ F1).mono ?_
    rintro e w2 ⟨rfl, hb⟩
    have F2 := F1.step hb
    obtain ⟨e0, e1, e2, e3, e4, e5⟩ := HO.out _ F2
    clear hb d0 d1 d2 d3 d4 d5
    go_wp2_with fail
    refine (H2.out _ F2).mono ?_
    rintro e w3 ⟨rfl, hb⟩
    have F3 := F2.step hb
    obtain ⟨d0, d1, d2, d3, d4, d5⟩ := HO.out _ F3
    clear hb e0 e1 e2 e3 e4 e5
    go_wp2_with fail
    refine (H3.out _ F3).mono ?_
    rintro e w4 hret
    obtain ⟨hb, a4, c4, rfl, hin⟩ := hret.ok HP.out
    have F4 := F3.step hb
    have HIN : Hid (IntsAt w4 (.slice a4 qz.length c4) qz) := hin.at_
    obtain ⟨m, hm⟩ : ∃ m, m = qz.length := ⟨_, rfl⟩
    rw [← hm] at HIN ⊢
    clear hb hret hin hm d0 d1 d2 d3 d4 d5
    go_wp2
    obtain ⟨W, hWW⟩ : ∃ W, W = w4.alloc (.cells #[.int .i64 k, .int .i64 qi, .int .i64 qc, .int .i64 qn, .bool qf, .slice a4 m c4] 58) := ⟨_, rfl⟩
    rw [← hWW]
    have F5 : From w4 W := by rw [hWW]; exact (From.refl w4).alloc _
    have hbW : Box6 W w4.heap.size k qi qc qn qf (.slice a4 m c4) := by rw [hWW]; exact ⟨by go_simp, by go_simp, by go_simp, by go_simp, by go_simp, by go_simp⟩
    have HBW := Lib.hid hbW
    have HF4 := Lib.hid (F4.trans F5)
    have HI4 : Hid (∀ w', From W w' → IntsAt w' (.slice a4 m c4) qz) := fun w' hf => HIN.out.from_ (F5.trans hf)
    have HK : Hid (∀ w', From W w' → (Box6 w' w4.heap.size k qi qc qn qf (.slice a4 m c4) ∧ Box6 w' w.heap.size k i c n f (.slice a l cp))) := fun w' hf => ⟨HBW.out.from_ hf, HO.out _ (HF4.out.trans hf)⟩
    have HKK : Hid (∀ w', From W w' → (w'.cell? ⟨w4.heap.size, 0, none⟩ = some (.int .i64 k) ∧ w'.cell? ⟨w4.heap.size, 1, none⟩ = some (.int .i64 qi) ∧ w'.cell? ⟨w4.heap.size, 2, none⟩ = some (.int .i64 qc) ∧ w'.cell? ⟨w4.heap.size, 3, none⟩ = some (.int .i64 qn) ∧ w'.cell? ⟨w4.heap.size, 4, none⟩ = some (.bool qf) ∧ w'.cell? ⟨w4.heap.size, 5, none⟩ = some (.slice a4 m c4) ∧ w'.cell? ⟨w.heap.size, 0, none⟩ = some (.int .i64 k) ∧ w'.cell? ⟨w.heap.size, 1, none⟩ = some (.int .i64 i) ∧ w'.cell? ⟨w.heap.size, 2, none⟩ = some (.int .i64 c) ∧ w'.cell? ⟨w.heap.size, 3, none⟩ = some (.int .i64 n) ∧ w'.cell? ⟨w.heap.size, 4, none⟩ = some (.bool f) ∧ w'.cell? ⟨w.heap.size, 5, none⟩ = some (.slice a l cp))) := fun w' hf => by
      obtain ⟨⟨a0, a1, a2, a3, a4, a5⟩, ⟨b0, b1, b2, b3, b4, b5⟩⟩ := HK.out w' hf
      exact ⟨a0, a1, a2, a3, a4, a5, b0, b1, b2, b3, b4, b5⟩
    have hv0 : From W W := From.refl W
    have hv1 : From W W.drew := hv0.drew
    clear hWW hbW F5 F4 F3 F2 F1 HIN
    go_region_held3 (fun w' => w'.cell? ⟨w4.heap.size, 0, none⟩ = some (.int .i64 k) ∧ w'.cell? ⟨w4.heap.size, 1, none⟩ = some (.int .i64 qi) ∧ w'.cell? ⟨w4.heap.size, 2, none⟩ = some (.int .i64 qc) ∧ w'.cell? ⟨w4.heap.size, 3, none⟩ = some (.int .i64 qn) ∧ w'.cell? ⟨w4.heap.size, 4, none⟩ = some (.bool qf) ∧ w'.cell? ⟨w4.heap.size, 5, none⟩ = some (.slice a4 m c4) ∧ w'.cell? ⟨w.heap.size, 0, none⟩ = some (.int .i64 k) ∧ w'.cell? ⟨w.heap.size, 1, none⟩ = some (.int .i64 i) ∧ w'.cell? ⟨w.heap.size, 2, none⟩ = some (.int .i64 c) ∧ w'.cell? ⟨w.heap.size, 3, none⟩ = some (.int .i64 n) ∧ w'.cell? ⟨w.heap.size, 4, none⟩ = some (.bool f) ∧ w'.cell? ⟨w.heap.size, 5, none⟩ = some (.slice a l cp))
      (first
        | (with_reducible exact HKK.out _ hv3)
        | (with_reducible exact HKK.out _ hv2)
        | (with_reducible exact HKK.out _ hv1)
        | (with_reducible exact HKK.out _ hv0))
      (first
      | (go_at_call 40; ((with_reducible refine (HPl.out _ (HF4.out.trans hv1)).mono ?_)); rintro e v2 ⟨rfl, hb⟩; have hv2 : From W v2 := hv1.step hb; clear hb)
      | (go_at_call 36; ((with_reducible refine (HE.out _ _ _ (HI4.out _ hv2) (HPA.out _ (HF4.out.trans hv2))).mono ?_)); rintro e v3 ⟨rfl, hb⟩; have hv3 : From W v3 := hv2.step hb; clear hb))
    go_wp2
    go_ret
    exact ⟨rfl, ((HFW.out.trans HF4.out).trans hv3).out⟩
  · have hok' : olined ⟨k, i, c, n, f, zs⟩ = false := by cases h : olined ⟨k, i, c, n, f, zs⟩ with | false => rfl | true => exact absurd h hok
    have hcode : (ocode ⟨k, i, c, n, f, zs⟩ == 0) = false := by
      rw [beq_eq_false_iff_ne]
      unfold olined at hok'
      exact of_decide_eq_false hok'
    rw [hok'] at H1
    clear hok hok' H3 hpz
    generalize oline ⟨k, i, c, n, f, zs⟩ = x at *
    generalize ocode ⟨k, i, c, n, f, zs⟩ = cd at *
    go_enter Tryz.func10, Tryz.ntmps10
    go_wp2_with fail
    rw [← hW0]
    clear hW0
    refine (HA.out _ HFW.out).mono ?_
    rintro e w1 ⟨rfl, hb⟩
    have F1 := G0.step hb
    obtain ⟨d0, d1, d2, d3, d4, d5⟩ := HO.out _ F1
    clear hb
    go_wp2_with fail
    refine (H1.out _ F1).mono ?_
    rintro e w2 ⟨rfl, hb⟩
    have F2 := F1.step hb
    obtain ⟨e0, e1, e2, e3, e4, e5⟩ := HO.out _ F2
    clear hb d0 d1 d2 d3 d4 d5
    go_wp2_with fail
    refine (H2.out _ F2).mono ?_
    rintro e w3 ⟨rfl, hb⟩
    have F3 := F2.step hb
    clear hb
    go_wp2
    go_ret
    exact ⟨rfl, (HFW.out.trans F3).out⟩
end Go.Proofs.YtdclokpoeaehlaaGreatDoor
