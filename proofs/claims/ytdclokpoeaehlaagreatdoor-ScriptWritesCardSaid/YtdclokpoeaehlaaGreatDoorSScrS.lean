/- ScriptWrites: the walk. -/
import Derived.Test.YtdclokpoeaehlaaGreatDoorSScrR
namespace Go.Proofs.YtdclokpoeaehlaaGreatDoor
set_option linter.all false
open Go.RowKit

theorem oline_short {o : OpS} (h : o.am.length ≤ 20) : (oline o).length ≤ 600 := by
  unfold oline
  cases hl : olined o with
  | false => simp
  | true =>
    obtain ⟨hk, hn⟩ := olined_iff.1 hl
    rw [if_pos rfl]
    refine Nat.le_trans (join_len _ 20 _ (owords_le hk hn)) ?_
    have : (owords o).length ≤ 25 := by
      have h1 : (onums o).length ≤ 23 := by unfold onums; (repeat' split) <;> simp only [List.length_cons, List.length_nil] <;> omega
      have h2 : (otail o).length ≤ 1 := by unfold otail; split <;> simp
      unfold owords
      simp only [List.length_cons, List.length_append, List.length_map]
      omega
    show _ * 21 ≤ _
    omega
theorem olines_short : ∀ (os : List OpS), (∀ o ∈ os, o.am.length ≤ 20) → (olines (os.map oline)).length ≤ os.length * 601
  | [], _ => by simp [olines]
  | o :: r, h => by
    have h1 := oline_short (h o (by simp))
    have h2 := olines_short r (fun x hx => h x (by simp [hx]))
    simp only [List.map_cons, olines, List.length_append, List.length_cons]
    omega
theorem WriteOk.split {os : List OpS} (h : WriteOk os) : Lib.split (olines (os.map oline)) [10] = os.map oline ++ [[]] := by
  have e := split_lines (os.map oline) [] (fun x hx => by obtain ⟨o, ho, rfl⟩ := List.mem_map.1 hx; exact oline_nl (h.mem o ho))
  rw [List.append_nil] at e
  rw [e, show Lib.split [] [10] = [[]] by decide]

set_option maxHeartbeats 8000000 in
set_option maxRecDepth 100000 in
theorem scriptWrites_many (v : Value) (os : List OpS) (w : World) (hx : os.length * 64 ≤ 140737488351232) (h : AtOps w v os) (hW : ScrW w) (hf : fewB os = false) :
    Calls Tryz.prog 11 #[v] w fun e w' => e = .returned (.bool true) ∧ Below w.heap.size w w' := by
  have HA : Hid (∀ w', From w w' → Calls Tryz.prog 32 #[] w' fun r w'' => r = .returned (.bool true) ∧ Below w'.heap.size w' w'') := fun w' hf => awake04_any w' (hW.from_ hf)
  have HFe : Hid (∀ w', From w w' → Calls Tryz.prog 41 #[v] w' fun e w'' => e = .returned (.bool (fewB os)) ∧ w' = w'') := fun w' hf => few_any v os w' hx (h.below hf.out)
  have F0 := From.refl w
  rw [hf] at HFe
  obtain ⟨a, cap, rfl⟩ := h.shape
  clear h hW
  generalize os.length = q at *
  go_enter Tryz.func11, Tryz.ntmps11
  go_wp2_with fail
  refine (HA.out _ F0).mono ?_
  rintro e w1 ⟨rfl, hb⟩
  have F1 := F0.step hb
  clear hb
  go_wp2_with fail
  refine (HFe.out _ F1).mono ?_
  rintro e w9 ⟨rfl, rfl⟩
  go_wp2_with fail
  refine (HA.out _ F1).mono ?_
  rintro e w2 ⟨rfl, hb⟩
  have F2 := F1.step hb
  clear hb
  go_wp2
  go_ret
  exact ⟨rfl, F2.out⟩
set_option maxHeartbeats 8000000 in
set_option maxRecDepth 100000 in
theorem scriptWrites_bad (v : Value) (os : List OpS) (w : World) (hx : os.length * 64 ≤ 140737488351232) (h : AtOps w v os) (hW : ScrW w) (hf : fewB os = true) (k0 : Nat) (hB : BadAt os k0) :
    Calls Tryz.prog 11 #[v] w fun e w' => e = .returned (.bool true) ∧ Below w.heap.size w w' := by
  have HA : Hid (∀ w', From w w' → Calls Tryz.prog 32 #[] w' fun r w'' => r = .returned (.bool true) ∧ Below w'.heap.size w' w'') := fun w' hf => awake04_any w' (hW.from_ hf)
  have HFe : Hid (∀ w', From w w' → Calls Tryz.prog 41 #[v] w' fun e w'' => e = .returned (.bool (fewB os)) ∧ w' = w'') := fun w' hf => few_any v os w' hx (h.below hf.out)
  have F0 := From.refl w
  rw [hf] at HFe
  obtain ⟨hle, hlen⟩ := fewB_iff.1 hf
  have HWr : Hid (∀ w', From w w' → Calls Tryz.prog 42 #[v] w' (WriteRet os w')) := fun w' hf => swrite_any v os w' hlen (fun j hj => Nat.le_trans (hle j hj) (by omega)) (h.below hf.out) (hW.from_ hf)
  have HERR : Hid (∀ w', From w w' → ErrType w') := fun w' hf => (hW.from_ hf).log.err
  obtain ⟨a, cap, rfl, hget⟩ := h.get
  obtain ⟨q, hq⟩ : ∃ q, q = os.length := ⟨_, rfl⟩
  have HQ := Lib.hid hq
  rw [← hq] at hget hle hlen hx HFe HWr ⊢
  have HGET := Lib.hid hget
  have HAM := Lib.hid hle
  have HBA := Lib.hid hB
  clear h hget hle hW hq hf hB
  go_enter Tryz.func11, Tryz.ntmps11
  go_wp2_with fail
  refine (HA.out _ F0).mono ?_
  rintro e w1 ⟨rfl, hb⟩
  have F1 := F0.step hb
  clear hb
  go_wp2_with fail
  refine (HFe.out _ F1).mono ?_
  rintro e w2 ⟨rfl, rfl⟩
  go_wp2_with fail
  refine (HWr.out _ F1).mono ?_
  rintro e w3 hret
  have he := hret.2.2 k0 HBA.out
  have hb := hret.1
  subst he
  have F3 := F1.step hb
  clear hret hb
  go_wp2
  go_loopw [5, 6] (fun wv iv wr => ∃ k : Nat, k ≤ q ∧ iv = .int .i64 k ∧ wv = .string (str (wtext os k)) ∧ Hid (∀ j, j < k → olined (opAt os j) = true) ∧ From w3 wr) (fun _ iv _ => q - (intOf iv).toNat)
  case atStart => exact ⟨0, Nat.zero_le _, rfl, by rw [wtext_zero]; rfl, fun j hj => absurd hj (Nat.not_lt_zero _), From.refl _⟩
  case round =>
    obtain ⟨k, hk, rfl, rfl, HOK, hfw⟩ := hrel
    have hki : (0 : Int) ≤ (k : Int) := by omega
    by_cases hlt : k < q
    · obtain ⟨b, off, aa, cc, rfl, hbw, hcs, hin⟩ := HGET.out k hlt
      have hkl : (k : Int) < (q : Int) := by omega
      have hal := HAM.out k hlt
      have FW := F3.trans hfw
      have p0 := FW.cell hcs.c0
      have p1 := FW.cell hcs.c1
      have p2 := FW.cell hcs.c2
      have p3 := FW.cell hcs.c3
      have p4 := FW.cell hcs.c4
      have p5 := FW.cell hcs.c5
      have HLn : Hid (∀ w', From w w' → Calls Tryz.prog 38 #[opV (opAt os k).kind (opAt os k).id (opAt os k).cls (opAt os k).n (opAt os k).flag (.slice aa (opAt os k).am.length cc)] w' (rlineRet (opAt os k) w')) := fun w' hf => orline_any _ _ _ _ _ _ (opAt os k).am w' (by omega) (hin.from_ hf)
      have hol := oline_len (o := opAt os k) (by omega)
      have hwl := wtext_len (os := os) (fun j hj => by have := HAM.out j (by rw [HQ.out]; exact hj); omega) k (by rw [← HQ.out]; omega)
      have hws := wtext_step (os := os) (k := k) (by rw [← HQ.out]; exact hlt)
      have HOK2 : Hid (olined (opAt os k) = true → ∀ j, j < k + 1 → olined (opAt os j) = true) := fun h j hj => by
        rcases Nat.lt_or_ge j k with h1 | h1
        · exact HOK.out j h1
        · rw [show j = k by omega]; exact h
      have HCODE : Hid (olined (opAt os k) = true → ocode (opAt os k) = 0) := fun h => by unfold olined at h; exact of_decide_eq_true h
      have HBAD : Hid (olined (opAt os k) = false → BadAt os k) := fun h => ⟨by rw [← HQ.out]; exact hlt, h, HOK.out⟩
      clear hcs hin hal
      unfold rlineRet at HLn
      generalize (opAt os k).am.length = al at *
      generalize (opAt os k).kind = ok at *
      generalize (opAt os k).id = oi at *
      generalize (opAt os k).cls = oc at *
      generalize (opAt os k).n = on at *
      generalize (opAt os k).flag = oflag at *
      cases hq : olined (opAt os k) with
      | true =>
        have HOK3 := Lib.hid (HOK2.out hq)
        rw [HCODE.out hq] at HLn
        clear HOK2 HCODE HBAD hq
        obtain ⟨x, hx⟩ : ∃ x, x = oline (opAt os k) := ⟨_, rfl⟩
        rw [← hx] at HLn hws hol
        have HST := Lib.hid hws
        obtain ⟨t, ht⟩ : ∃ t, t = wtext os k := ⟨_, rfl⟩
        rw [← ht] at hwl HST ⊢
        have ha1 : ∀ w, (Op.stringOp .add (str t) (str x)).run Tryz.prog w = .ok (.string (str (t ++ x))) w := fun w => add_str w t x (by omega)
        have ha2 : ∀ w, (Op.stringOp .add (str (t ++ x)) ⟨#[10]⟩).run Tryz.prog w = .ok (.string (str (t ++ x ++ [10]))) w := fun w => add_str w (t ++ x) [10] (by simp; omega)
        have HW2 : Hid (str (t ++ x ++ [10]) = str (wtext os (k + 1))) := by rw [HST.out, List.append_assoc]; exact rfl
        clear hx ht hws HST
        generalize str (t ++ x ++ [10]) = t3 at *
        generalize str (t ++ x) = t2 at *
        go_wp2_with fail
        refine (HLn.out _ FW).mono ?_
        rintro e w5 ⟨rfl, hb⟩
        have F5 : From w3 w5 := hfw.step hb
        clear hb
        go_wp2
        go_roundw
        case rel => exact ⟨k + 1, by omega, by go_num, by rw [HW2.out], HOK3.out, F5⟩
        case measure => first | (simp [intOf]; omega) | omega
      | false =>
        obtain rfl : k = k0 := by
          have h1 := HBAD.out hq
          have h2 := HBA.out
          rcases Nat.lt_trichotomy k k0 with h | h | h
          · have := h2.2.2 k h; rw [hq] at this; cases this
          · exact h
          · have := h1.2.2 k0 h; rw [h2.2.1] at this; cases this
        have hcd : ocode (opAt os k) = 1 ∨ ocode (opAt os k) = 4 := by
          rcases ocode_of hq with ⟨-, h⟩ | ⟨-, h⟩
          · exact .inl h
          · exact .inr h
        have HWg : Hid (∀ w', From w w' → Calls Tryz.prog 35 #[.iface 113 (.agg #[.int .i64 (ocode (opAt os k)), .int .i64 k]), .int .i64 (ocode (opAt os k)), .int .i64 k] w' fun r w'' => r = .returned (.bool true) ∧ Below w'.heap.size w' w'') := fun w' hf => by
          have h := wrong_fault (ocode (opAt os k)) k (ocode (opAt os k)) k w' (HERR.out _ hf)
          rw [show (ocode (opAt os k) == ocode (opAt os k) && (k : Int) == (k : Int)) = true by simp] at h
          exact h
        clear HOK2 HCODE HBAD hq hws
        generalize ocode (opAt os k) = cd at *
        generalize oline (opAt os k) = x at *
        have hc0 : (cd == 0) = false := by rw [beq_eq_false_iff_ne]; omega
        have hc1 : ¬ (cd = 0) := by omega
        go_wp2_with fail
        refine (HLn.out _ FW).mono ?_
        rintro e w5 ⟨rfl, hb⟩
        have F5 : From w w5 := FW.step hb
        clear hb
        go_wp2_with fail
        refine (HWg.out _ F5).mono ?_
        rintro e w6 ⟨rfl, hb⟩
        have F6 := F5.step hb
        clear hb
        go_wp2
        go_ret
        exact ⟨rfl, F6.out⟩
    · have he : k = q := by omega
      subst he
      have hkl : ¬ ((k : Int) < (k : Int)) := by omega
      exfalso
      have h2 := HBA.out
      have h3 := HOK.out k0 (by have := h2.1; rw [← HQ.out] at this; exact this)
      rw [h2.2.1] at h3
      cases h3
set_option maxHeartbeats 8000000 in
set_option maxRecDepth 100000 in
theorem scriptWrites_ok (v : Value) (os : List OpS) (w : World) (hx : os.length * 64 ≤ 140737488351232) (h : AtOps w v os) (hW : ScrW w) (hf : fewB os = true) (hO : WriteOk os) :
    Calls Tryz.prog 11 #[v] w fun e w' => e = .returned (.bool true) ∧ Below w.heap.size w w' := by
  have HA : Hid (∀ w', From w w' → Calls Tryz.prog 32 #[] w' fun r w'' => r = .returned (.bool true) ∧ Below w'.heap.size w' w'') := fun w' hf => awake04_any w' (hW.from_ hf)
  have HFe : Hid (∀ w', From w w' → Calls Tryz.prog 41 #[v] w' fun e w'' => e = .returned (.bool (fewB os)) ∧ w' = w'') := fun w' hf => few_any v os w' hx (h.below hf.out)
  have F0 := From.refl w
  rw [hf] at HFe
  obtain ⟨hle, hlen⟩ := fewB_iff.1 hf
  have HWr : Hid (∀ w', From w w' → Calls Tryz.prog 42 #[v] w' (WriteRet os w')) := fun w' hf => swrite_any v os w' hlen (fun j hj => Nat.le_trans (hle j hj) (by omega)) (h.below hf.out) (hW.from_ hf)
  have HERR : Hid (∀ w', From w w' → ErrType w') := fun w' hf => (hW.from_ hf).log.err
  obtain ⟨a, cap, rfl, hget⟩ := h.get
  obtain ⟨q, hq⟩ : ∃ q, q = os.length := ⟨_, rfl⟩
  have HQ := Lib.hid hq
  rw [← hq] at hget hle hlen hx HFe HWr ⊢
  have HGET := Lib.hid hget
  have HAM := Lib.hid hle
  have hsz : (olines (os.map oline)).length ≤ 300 * 601 := Nat.le_trans (olines_short os (fun o ho => by obtain ⟨j, hj, rfl⟩ := opAt_mem ho; exact hle j (by rw [hq]; exact hj))) (by rw [← hq]; omega)
  have HRd : Hid (∀ w', From w w' → Calls Tryz.prog 33 #[.string (str (olines (os.map oline)))] w' (ReadRet (.inr (os.map oplain)) w')) := fun w' hf' => by
    have h1 := sread_lines (str (olines (os.map oline))) w' (by rw [str_size]; omega) (fun j => by
      rw [str_toList, hO.split]
      refine strAt_le (fun x hx => ?_) j
      rcases List.mem_append.1 hx with hx | hx
      · obtain ⟨o, ho, rfl⟩ := List.mem_map.1 hx
        obtain ⟨i, hi, rfl⟩ := opAt_mem ho
        have := oline_short (hle i (by rw [hq]; exact hi))
        omega
      · rw [List.mem_singleton.1 hx]; simp) (hW.from_ hf')
    rw [str_toList, oread_lines hO.mem] at h1
    exact h1
  have HOO := Lib.hid hO
  clear h hget hle hW hq hf hO
  go_enter Tryz.func11, Tryz.ntmps11
  go_wp2_with fail
  refine (HA.out _ F0).mono ?_
  rintro e w1 ⟨rfl, hb⟩
  have F1 := F0.step hb
  clear hb
  go_wp2_with fail
  refine (HFe.out _ F1).mono ?_
  rintro e w2 ⟨rfl, rfl⟩
  go_wp2_with fail
  refine (HWr.out _ F1).mono ?_
  rintro e w3 hret
  have he := hret.2.1 HOO.out
  have hb := hret.1
  subst he
  have F3 := F1.step hb
  clear hret hb
  go_wp2
  go_loopw [5, 6] (fun wv iv wr => ∃ k : Nat, k ≤ q ∧ iv = .int .i64 k ∧ wv = .string (str (wtext os k)) ∧ Hid (∀ j, j < k → olined (opAt os j) = true) ∧ From w3 wr) (fun _ iv _ => q - (intOf iv).toNat)
  case atStart => exact ⟨0, Nat.zero_le _, rfl, by rw [wtext_zero]; rfl, fun j hj => absurd hj (Nat.not_lt_zero _), From.refl _⟩
  case round =>
    obtain ⟨k, hk, rfl, rfl, HOK, hfw⟩ := hrel
    have hki : (0 : Int) ≤ (k : Int) := by omega
    by_cases hlt : k < q
    · obtain ⟨b, off, aa, cc, rfl, hbw, hcs, hin⟩ := HGET.out k hlt
      have hkl : (k : Int) < (q : Int) := by omega
      have hal := HAM.out k hlt
      have FW := F3.trans hfw
      have p0 := FW.cell hcs.c0
      have p1 := FW.cell hcs.c1
      have p2 := FW.cell hcs.c2
      have p3 := FW.cell hcs.c3
      have p4 := FW.cell hcs.c4
      have p5 := FW.cell hcs.c5
      have HLn : Hid (∀ w', From w w' → Calls Tryz.prog 38 #[opV (opAt os k).kind (opAt os k).id (opAt os k).cls (opAt os k).n (opAt os k).flag (.slice aa (opAt os k).am.length cc)] w' (rlineRet (opAt os k) w')) := fun w' hf => orline_any _ _ _ _ _ _ (opAt os k).am w' (by omega) (hin.from_ hf)
      have hol := oline_len (o := opAt os k) (by omega)
      have hwl := wtext_len (os := os) (fun j hj => by have := HAM.out j (by rw [HQ.out]; exact hj); omega) k (by rw [← HQ.out]; omega)
      have hws := wtext_step (os := os) (k := k) (by rw [← HQ.out]; exact hlt)
      have HOK2 : Hid (olined (opAt os k) = true → ∀ j, j < k + 1 → olined (opAt os j) = true) := fun h j hj => by
        rcases Nat.lt_or_ge j k with h1 | h1
        · exact HOK.out j h1
        · rw [show j = k by omega]; exact h
      have HCODE : Hid (olined (opAt os k) = true → ocode (opAt os k) = 0) := fun h => by unfold olined at h; exact of_decide_eq_true h
      have HBAD : Hid (olined (opAt os k) = false → BadAt os k) := fun h => ⟨by rw [← HQ.out]; exact hlt, h, HOK.out⟩
      clear hcs hin hal
      unfold rlineRet at HLn
      generalize (opAt os k).am.length = al at *
      generalize (opAt os k).kind = ok at *
      generalize (opAt os k).id = oi at *
      generalize (opAt os k).cls = oc at *
      generalize (opAt os k).n = on at *
      generalize (opAt os k).flag = oflag at *
      cases hq : olined (opAt os k) with
      | true =>
        have HOK3 := Lib.hid (HOK2.out hq)
        rw [HCODE.out hq] at HLn
        clear HOK2 HCODE HBAD hq
        obtain ⟨x, hx⟩ : ∃ x, x = oline (opAt os k) := ⟨_, rfl⟩
        rw [← hx] at HLn hws hol
        have HST := Lib.hid hws
        obtain ⟨t, ht⟩ : ∃ t, t = wtext os k := ⟨_, rfl⟩
        rw [← ht] at hwl HST ⊢
        have ha1 : ∀ w, (Op.stringOp .add (str t) (str x)).run Tryz.prog w = .ok (.string (str (t ++ x))) w := fun w => add_str w t x (by omega)
        have ha2 : ∀ w, (Op.stringOp .add (str (t ++ x)) ⟨#[10]⟩).run Tryz.prog w = .ok (.string (str (t ++ x ++ [10]))) w := fun w => add_str w (t ++ x) [10] (by simp; omega)
        have HW2 : Hid (str (t ++ x ++ [10]) = str (wtext os (k + 1))) := by rw [HST.out, List.append_assoc]; exact rfl
        clear hx ht hws HST
        generalize str (t ++ x ++ [10]) = t3 at *
        generalize str (t ++ x) = t2 at *
        go_wp2_with fail
        refine (HLn.out _ FW).mono ?_
        rintro e w5 ⟨rfl, hb⟩
        have F5 : From w3 w5 := hfw.step hb
        clear hb
        go_wp2
        go_roundw
        case rel => exact ⟨k + 1, by omega, by go_num, by rw [HW2.out], HOK3.out, F5⟩
        case measure => first | (simp [intOf]; omega) | omega
      | false =>
        exfalso
        have h1 := HOO.out k (by rw [← HQ.out]; exact hlt)
        rw [hq] at h1
        cases h1
    · have he : k = q := by omega
      subst he
      have hkl : ¬ ((k : Int) < (k : Int)) := by omega
      have HT : Hid (wtext os k = olines (os.map oline)) := wtext_all os (by rw [← HQ.out]; exact Nat.le_refl _)
      rw [HT.out]
      have FW := F3.trans hfw
      generalize olines (os.map oline) = tx at *
      go_wp2_with fail
      refine (HRd.out _ FW).mono ?_
      rintro e w5 hret
      obtain ⟨hb, v5, rfl, ho5⟩ := hret.ok rfl
      have F5 := FW.step hb
      obtain ⟨a5, c5, rfl, hg5⟩ := ho5.at_.get
      rw [List.length_map, ← HQ.out] at hg5 ⊢
      have HG5 := Lib.hid hg5
      clear hb hret ho5 hg5 HOK HRd HWr HFe HA hsz HERR
      go_wp2
      go_loopw [11] (fun iv wr => ∃ j : Nat, j ≤ k ∧ iv = .int .i64 j ∧ From w5 wr) (fun iv _ => k - (intOf iv).toNat)
      case atStart => exact ⟨0, Nat.zero_le _, rfl, From.refl _⟩
      case round =>
        obtain ⟨j, hj, rfl, hfr⟩ := hrel
        have hji : (0 : Int) ≤ (j : Int) := by omega
        by_cases hjk : j < k
        · obtain ⟨b1, off1, a1, c1, rfl, hb1, hc1, hi1⟩ := HG5.out j hjk
          obtain ⟨b2, off2, a2, c2, rfl, hb2, hc2, hi2⟩ := HGET.out j hjk
          rw [opAt_map (by rw [← HQ.out]; exact hjk)] at hc1 hi1
          have hjl : (j : Int) < (k : Int) := by omega
          have haml := HAM.out j hjk
          obtain ⟨o, ho⟩ : ∃ o, o = opAt os j := ⟨_, rfl⟩
          rw [← ho] at hc1 hi1 hc2 hi2 haml
          clear ho
          have p0 : w5.cell? ⟨b1, off1 + j * 6, none⟩ = some (.int .i64 o.kind) := hc1.c0
          have p1 : w5.cell? ⟨b1, off1 + j * 6 + 1, none⟩ = some (.int .i64 (pI o.kind o.id)) := hc1.c1
          have p2 : w5.cell? ⟨b1, off1 + j * 6 + 2, none⟩ = some (.int .i64 (pC o.kind o.cls)) := hc1.c2
          have p3 : w5.cell? ⟨b1, off1 + j * 6 + 3, none⟩ = some (.int .i64 (pN o.kind o.n)) := hc1.c3
          have p4 : w5.cell? ⟨b1, off1 + j * 6 + 4, none⟩ = some (.bool (pF o.kind o.flag)) := hc1.c4
          have p5 : w5.cell? ⟨b1, off1 + j * 6 + 5, none⟩ = some (.slice a1 (pZ o.kind o.am).length c1) := hc1.c5
          have hi1' : IntsAt w5 (.slice a1 (pZ o.kind o.am).length c1) (pZ o.kind o.am) := hi1
          have r0 := F5.cell hc2.c0
          have r1 := F5.cell hc2.c1
          have r2 := F5.cell hc2.c2
          have r3 := F5.cell hc2.c3
          have r4 := F5.cell hc2.c4
          have r5 := F5.cell hc2.c5
          have HPl : Hid (∀ w', From w5 w' → Calls Tryz.prog 40 #[opV o.kind o.id o.cls o.n o.flag (.slice a2 o.am.length c2)] w' (RetOpR w' o.kind (pI o.kind o.id) (pC o.kind o.cls) (pN o.kind o.n) (pF o.kind o.flag) (pA o.kind (.slice a2 o.am.length c2)))) := fun w' hf => rplain_any o.kind o.id o.cls o.n o.flag (.slice a2 o.am.length c2) o.am w' (hi2.from_ (F5.trans hf))
          have HPA : Hid (∀ w', From w5 w' → IntsAt w' (pA o.kind (.slice a2 o.am.length c2)) (pZ o.kind o.am)) := fun w' hf => by
            unfold pA pZ
            split
            · exact hi2.from_ (F5.trans hf)
            · exact ⟨none, 0, rfl, .inl rfl⟩
          have hzl : (pZ o.kind o.am).length ≤ 20 := by
            unfold pZ
            split
            · exact haml
            · simp
          have HE : Hid (∀ w' v v', IntsAt w' v (pZ o.kind o.am) → IntsAt w' v' (pZ o.kind o.am) → Calls Tryz.prog 36 #[opV o.kind (pI o.kind o.id) (pC o.kind o.cls) (pN o.kind o.n) (pF o.kind o.flag) v, opV o.kind (pI o.kind o.id) (pC o.kind o.cls) (pN o.kind o.n) (pF o.kind o.flag) v'] w' fun r w'' => r = .returned (.bool true) ∧ Below w'.heap.size w' w'') := fun w' v v' h h' => by
            have h1 := refEqual_any o.kind (pI o.kind o.id) (pC o.kind o.cls) (pN o.kind o.n) (pF o.kind o.flag) v (pZ o.kind o.am) o.kind (pI o.kind o.id) (pC o.kind o.cls) (pN o.kind o.n) (pF o.kind o.flag) v' (pZ o.kind o.am) w' (by omega) (by omega) h h'
            rw [eqOp_refl] at h1
            exact h1
          obtain ⟨pa, pl, pc, hpa⟩ : ∃ pa pl pc, pA o.kind (.slice a2 o.am.length c2) = .slice pa pl pc := by
            unfold pA; split
            · exact ⟨_, _, _, rfl⟩
            · exact ⟨_, _, _, rfl⟩
          rw [hpa] at HPl HPA
          have HI1 : Hid (∀ w', From w5 w' → IntsAt w' (.slice a1 (pZ o.kind o.am).length c1) (pZ o.kind o.am)) := fun w' hf => hi1'.from_ hf
          clear hc1 hc2 hi1 hi1' hi2 hpa haml hzl
          generalize o.am.length = n2 at *
          generalize pI o.kind o.id = zi at *
          generalize pC o.kind o.cls = zc at *
          generalize pN o.kind o.n = zn at *
          generalize pF o.kind o.flag = zf at *
          generalize pZ o.kind o.am = qz at *
          generalize o.kind = zk at *
          generalize o.id = yi at *
          generalize o.cls = yc at *
          generalize o.n = yn at *
          generalize o.flag = yf at *
          obtain ⟨m, hm⟩ : ∃ m, m = qz.length := ⟨_, rfl⟩
          rw [← hm] at HI1 p5
          clear hm
          have HK : Hid (∀ w', From w5 w' → (w'.cell? ⟨b1, off1 + j * 6, none⟩ = some (.int .i64 zk) ∧ w'.cell? ⟨b1, off1 + j * 6 + 1, none⟩ = some (.int .i64 zi) ∧ w'.cell? ⟨b1, off1 + j * 6 + 2, none⟩ = some (.int .i64 zc) ∧ w'.cell? ⟨b1, off1 + j * 6 + 3, none⟩ = some (.int .i64 zn) ∧ w'.cell? ⟨b1, off1 + j * 6 + 4, none⟩ = some (.bool zf) ∧ w'.cell? ⟨b1, off1 + j * 6 + 5, none⟩ = some (.slice a1 m c1) ∧ w'.cell? ⟨b2, off2 + j * 6, none⟩ = some (.int .i64 zk) ∧ w'.cell? ⟨b2, off2 + j * 6 + 1, none⟩ = some (.int .i64 yi) ∧ w'.cell? ⟨b2, off2 + j * 6 + 2, none⟩ = some (.int .i64 yc) ∧ w'.cell? ⟨b2, off2 + j * 6 + 3, none⟩ = some (.int .i64 yn) ∧ w'.cell? ⟨b2, off2 + j * 6 + 4, none⟩ = some (.bool yf) ∧ w'.cell? ⟨b2, off2 + j * 6 + 5, none⟩ = some (.slice a2 n2 c2))) := fun w' hf => ⟨hf.cell p0, hf.cell p1, hf.cell p2, hf.cell p3, hf.cell p4, hf.cell p5, hf.cell r0, hf.cell r1, hf.cell r2, hf.cell r3, hf.cell r4, hf.cell r5⟩
          have hv0 : From w5 wr := hfr
          have hv1 : From w5 wr.drew := hv0.drew
          clear p0 p1 p2 p3 p4 p5 r0 r1 r2 r3 r4 r5
          go_wp2
          go_region_held3 (fun w' => (w'.cell? ⟨b1, off1 + j * 6, none⟩ = some (.int .i64 zk) ∧ w'.cell? ⟨b1, off1 + j * 6 + 1, none⟩ = some (.int .i64 zi) ∧ w'.cell? ⟨b1, off1 + j * 6 + 2, none⟩ = some (.int .i64 zc) ∧ w'.cell? ⟨b1, off1 + j * 6 + 3, none⟩ = some (.int .i64 zn) ∧ w'.cell? ⟨b1, off1 + j * 6 + 4, none⟩ = some (.bool zf) ∧ w'.cell? ⟨b1, off1 + j * 6 + 5, none⟩ = some (.slice a1 m c1) ∧ w'.cell? ⟨b2, off2 + j * 6, none⟩ = some (.int .i64 zk) ∧ w'.cell? ⟨b2, off2 + j * 6 + 1, none⟩ = some (.int .i64 yi) ∧ w'.cell? ⟨b2, off2 + j * 6 + 2, none⟩ = some (.int .i64 yc) ∧ w'.cell? ⟨b2, off2 + j * 6 + 3, none⟩ = some (.int .i64 yn) ∧ w'.cell? ⟨b2, off2 + j * 6 + 4, none⟩ = some (.bool yf) ∧ w'.cell? ⟨b2, off2 + j * 6 + 5, none⟩ = some (.slice a2 n2 c2)))
            (first
              | (with_reducible exact HK.out _ hv3)
              | (with_reducible exact HK.out _ hv2)
              | (with_reducible exact HK.out _ hv1)
              | (with_reducible exact HK.out _ hv0))
            (first
            | (go_at_call 40; ((with_reducible refine (HPl.out _ hv1).mono ?_)); rintro e v2 ⟨rfl, hb⟩; have hv2 : From w5 v2 := hv1.step hb; clear hb)
            | (go_at_call 36; ((with_reducible refine (HE.out _ _ _ (HI1.out _ hv2) (HPA.out _ hv2)).mono ?_)); rintro e v3 ⟨rfl, hb⟩; have hv3 : From w5 v3 := hv2.step hb; clear hb))
          go_wp2
          go_roundw
          case rel => exact ⟨j + 1, by omega, by go_num, hv3⟩
          case measure => first | (simp [intOf]; omega) | omega
        · have hjl : ¬ ((j : Int) < (k : Int)) := by omega
          go_wp2
          go_ret
          exact ⟨rfl, (F5.trans hfr).out⟩
/-- ScriptWrites. -/
theorem scriptWrites_walk (v : Value) (os : List OpS) (w : World) (hx : os.length * 64 ≤ 140737488351232) (h : AtOps w v os) (hW : ScrW w) :
    Calls Tryz.prog 11 #[v] w fun e w' => e = .returned (.bool true) ∧ Below w.heap.size w w' := by
  cases hf : fewB os with
  | false => exact scriptWrites_many v os w hx h hW hf
  | true =>
    rcases write_cases os with hO | ⟨k, hB⟩
    · exact scriptWrites_ok v os w hx h hW hf hO
    · exact scriptWrites_bad v os w hx h hW hf k hB
end Go.Proofs.YtdclokpoeaehlaaGreatDoor
