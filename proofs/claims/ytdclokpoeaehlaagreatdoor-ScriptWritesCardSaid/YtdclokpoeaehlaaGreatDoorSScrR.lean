/- ScriptMatchesReference, ScriptComments: the walks. -/
import Derived.Test.YtdclokpoeaehlaaGreatDoorSScrQ
namespace Go.Proofs.YtdclokpoeaehlaaGreatDoor
set_option linter.all false
open Go.RowKit

theorem onumbers_len : ∀ (r : List (List UInt8)) (ns : List Int), onumbers r = some ns → ns.length = r.length
  | [], ns, h => by simp only [onumbers, Option.some.injEq] at h; subst h; rfl
  | w :: r, ns, h => by
    rcases onum_cons w r with h1 | ⟨v, vs, h1, -, h2⟩
    · rw [h1] at h; cases h
    · rw [h1] at h
      cases h
      simp [onumbers_len r vs h2]
theorem oparse_am {l : List UInt8} {o : OpS} (h : oparse l = some o) : o.am.length ≤ (Lib.split l [32]).length := by
  unfold oparse at h
  cases hs : Lib.split l [32] with
  | nil => rw [hs] at h; cases h
  | cons x r =>
    rw [hs] at h
    simp only at h
    split at h
    · cases h
    · unfold oargs at h
      split at h
      · split at h
        · split at h
          · split at h
            · cases h; simp
            · cases h
          · cases h
        · cases h
      · cases hn : onumbers r with
        | none => rw [hn] at h; cases h
        | some ns =>
          rw [hn] at h
          have hl := onumbers_len r ns hn
          simp only [Option.bind_some] at h
          unfold oshape at h
          split at h <;> cases h <;> simp_all <;> omega
theorem oreads_mem : ∀ (xs : List (List UInt8)) (i : Nat) (os : List OpS), oreads i xs = .inr os → ∀ o ∈ os, ∃ x ∈ xs, oparse x = some o
  | [], i, os, h, o, ho => by simp only [oreads] at h; cases h; simp at ho
  | x :: r, i, os, h, o, ho => by
    simp only [oreads] at h
    split at h
    · obtain ⟨y, hy, hp⟩ := oreads_mem r (i + 1) os h o ho
      exact ⟨y, by simp [hy], hp⟩
    · cases hp : oparse x with
      | none => rw [hp] at h; cases h
      | some o1 =>
        rw [hp] at h
        simp only at h
        cases hr : oreads (i + 1) r with
        | inl j => rw [hr] at h; cases h
        | inr os' =>
          rw [hr] at h
          cases h
          rcases List.mem_cons.1 ho with rfl | ho
          · exact ⟨x, by simp, hp⟩
          · obtain ⟨y, hy, hp'⟩ := oreads_mem r (i + 1) os' hr o ho
            exact ⟨y, by simp [hy], hp'⟩
theorem oreads_le : ∀ (xs : List (List UInt8)) (i j : Nat), oreads i xs = .inl j → j < i + xs.length
  | [], i, j, h => by simp only [oreads] at h; cases h
  | x :: r, i, j, h => by
    simp only [oreads] at h
    simp only [List.length_cons]
    split at h
    · have := oreads_le r (i + 1) j h; omega
    · cases hp : oparse x with
      | none => rw [hp] at h; cases h; omega
      | some o1 =>
        rw [hp] at h
        simp only at h
        cases hr : oreads (i + 1) r with
        | inl j' => rw [hr] at h; cases h; have := oreads_le r (i + 1) j hr; omega
        | inr os' => rw [hr] at h; cases h
theorem oreads_count : ∀ (xs : List (List UInt8)) (i : Nat) (os : List OpS), oreads i xs = .inr os → os.length ≤ xs.length
  | [], i, os, h => by simp only [oreads] at h; cases h; simp
  | x :: r, i, os, h => by
    simp only [oreads] at h
    simp only [List.length_cons]
    split at h
    · have := oreads_count r (i + 1) os h; omega
    · cases hp : oparse x with
      | none => rw [hp] at h; cases h
      | some o1 =>
        rw [hp] at h
        simp only at h
        cases hr : oreads (i + 1) r with
        | inl j' => rw [hr] at h; cases h
        | inr os' => rw [hr] at h; cases h; have := oreads_count r (i + 1) os' hr; simp; omega
theorem oread_count (s : ByteArray) {os : List OpS} (h : oread s.data.toList = .inr os) : os.length ≤ s.size + 1 := by
  have h1 := oreads_count _ 0 os h
  have h2 := splits_len s [10] (by simp)
  omega
theorem oread_len (s : ByteArray) (hs : s.size ≤ 100000) {os : List OpS} (h : oread s.data.toList = .inr os) : ∀ k, k < os.length → (opAt os k).am.length ≤ 200000 := fun k hk => by
  obtain ⟨x, hx, hp⟩ := oreads_mem _ 0 os h (opAt os k) (List.mem_of_getElem? (opAt_get hk))
  have h1 := oparse_am hp
  have h2 := split_le [10] (by simp) _ s.data.toList (Nat.le_refl _) x hx
  have h3 := splits_len (str x) [32] (by simp)
  rw [str_toList, str_size] at h3
  rw [size_toList] at h2
  omega
set_option maxHeartbeats 4000000 in
set_option maxRecDepth 100000 in
theorem scriptMatches_walk (s : ByteArray) (w : World) (hW : ScrW w) :
    Calls Tryz.prog 9 #[.string s] w fun e w' => e = .returned (.bool true) ∧ Below w.heap.size w w' := by
  have HA : Hid (∀ w', From w w' → Calls Tryz.prog 32 #[] w' fun r w'' => r = .returned (.bool true) ∧ Below w'.heap.size w' w'') := fun w' hf => awake04_any w' (hW.from_ hf)
  have F0 := From.refl w
  by_cases h2000 : 2000 < s.size
  · clear hW
    go_enter Tryz.func9, Tryz.ntmps9
    go_wp2_with fail
    refine (HA.out _ F0).mono ?_
    rintro e w1 ⟨rfl, hb⟩
    have F1 := F0.step hb
    clear hb
    go_wp2_with fail
    refine (HA.out _ F1).mono ?_
    rintro e w2 ⟨rfl, hb⟩
    have F2 := F1.step hb
    clear hb
    go_wp2
    go_ret
    exact ⟨rfl, F2.out⟩
  have hs : s.size ≤ 2000 := by omega
  have H1 : Hid (∀ w', From w w' → Calls Tryz.prog 33 #[.string s] w' (ReadRet (oread s.data.toList) w')) := fun w' hf => sread_any s w' (by omega) (hW.from_ hf)
  have H2 : Hid (∀ w', Calls Tryz.prog 34 #[.string s] w' (RReadRet (oread s.data.toList) w')) := fun w' => orread_any s w' (by omega)
  cases hr : oread s.data.toList with
  | inl j =>
    have HR := Lib.hid hr
    have HWr : Hid (∀ w', From w w' → Calls Tryz.prog 35 #[.iface 113 (.agg #[.int .i64 9, .int .i64 j]), .int .i64 9, .int .i64 j] w' fun r w'' => r = .returned (.bool true) ∧ Below w'.heap.size w' w'') := fun w' hf => by
      have h := wrong_fault 9 j 9 j w' (hW.from_ hf).log.err
      rw [show ((9 : Int) == 9 && (j : Int) == (j : Int)) = true by simp] at h
      exact h
    clear hW h2000 hr
    have hji : (0 : Int) ≤ (j : Int) := by omega
    go_enter Tryz.func9, Tryz.ntmps9
    go_wp2_with fail
    refine (HA.out _ F0).mono ?_
    rintro e w1 ⟨rfl, hb⟩
    have F1 := F0.step hb
    clear hb
    go_wp2_with fail
    refine (H1.out _ F1).mono ?_
    rintro e w2 hret
    obtain ⟨hb, rfl⟩ := hret.bad HR.out
    have F2 := F1.step hb
    clear hb hret
    go_wp2_with fail
    refine (H2.out _).mono ?_
    rintro e w3 hret
    obtain ⟨hb, rfl⟩ := hret.bad HR.out
    have F3 := F2.step hb
    clear hb hret
    go_wp2_with fail
    refine (HWr.out _ F3).mono ?_
    rintro e w4 ⟨rfl, hb⟩
    have F4 := F3.step hb
    clear hb
    go_wp2
    go_ret
    exact ⟨rfl, F4.out⟩
  | inr os =>
    have HR := Lib.hid hr
    have HLEN := Lib.hid (oread_len s (by omega) hr)
    have hoc := oread_count s hr
    clear hW h2000 hr
    go_enter Tryz.func9, Tryz.ntmps9
    go_wp2_with fail
    refine (HA.out _ F0).mono ?_
    rintro e w1 ⟨rfl, hb⟩
    have F1 := F0.step hb
    clear hb
    go_wp2_with fail
    refine (H1.out _ F1).mono ?_
    rintro e w2 hret
    obtain ⟨hb, v1, rfl, ho1⟩ := hret.ok HR.out
    have F2 := F1.step hb
    have HO1 := Lib.hid ho1.at_
    obtain ⟨x1, y1, rfl⟩ := ho1.shape
    clear hb hret ho1
    go_wp2_with fail
    refine (H2.out _).mono ?_
    rintro e w3 hret
    obtain ⟨hb, v2, rfl, ho2⟩ := hret.ok HR.out
    have F3 := F2.step hb
    obtain ⟨a1, c1, e1, hg1⟩ := (HO1.out.below hb).get
    obtain ⟨a2, c2, e2, hg2⟩ := ho2.at_.get
    subst e2
    rw [Value.slice.injEq] at e1
    obtain ⟨rfl, -, rfl⟩ := e1
    obtain ⟨q, hq⟩ : ∃ q, q = os.length := ⟨_, rfl⟩
    rw [← hq] at hg1 hg2 HLEN hoc ⊢
    have HG1 := Lib.hid hg1
    have HG2 := Lib.hid hg2
    clear hb hret ho2 hg1 hg2 HO1 hq H1 H2 HA
    go_wp2
    go_loopw [7] (fun iv wr => ∃ k : Nat, k ≤ q ∧ iv = .int .i64 k ∧ From w3 wr) (fun iv _ => q - (intOf iv).toNat)
    case atStart => exact ⟨0, Nat.zero_le _, rfl, From.refl _⟩
    case round =>
      obtain ⟨k, hk, rfl, hfw⟩ := hrel
      have hki : (0 : Int) ≤ (k : Int) := by omega
      by_cases hlt : k < q
      · obtain ⟨b1, off1, aa1, cc1, rfl, hb1, hc1, hi1⟩ := HG1.out k hlt
        obtain ⟨b2, off2, aa2, cc2, rfl, hb2, hc2, hi2⟩ := HG2.out k hlt
        have hkl : (k : Int) < (q : Int) := by omega
        have hml : (opAt os k).am.length * 8 ≤ 140737488351232 := by have := HLEN.out k hlt; omega
        have HE : Hid (∀ w', From w3 w' → Calls Tryz.prog 36 #[opV (opAt os k).kind (opAt os k).id (opAt os k).cls (opAt os k).n (opAt os k).flag (.slice aa1 (opAt os k).am.length cc1), opV (opAt os k).kind (opAt os k).id (opAt os k).cls (opAt os k).n (opAt os k).flag (.slice aa2 (opAt os k).am.length cc2)] w' fun r w'' => r = .returned (.bool true) ∧ Below w'.heap.size w' w'') := fun w' hf => by
          have h1 := refEqual_any (opAt os k).kind (opAt os k).id (opAt os k).cls (opAt os k).n (opAt os k).flag _ (opAt os k).am (opAt os k).kind (opAt os k).id (opAt os k).cls (opAt os k).n (opAt os k).flag _ (opAt os k).am w' hml hml (hi1.from_ hf) (hi2.from_ hf)
          rw [eqOp_refl] at h1
          exact h1
        obtain ⟨p0, p1, p2, p3, p4, p5⟩ := hc1
        obtain ⟨r0, r1, r2, r3, r4, r5⟩ := hc2
        clear hi1 hi2 hml
        generalize (opAt os k).am.length = m at *
        generalize (opAt os k).kind = ok at *
        generalize (opAt os k).id = oi at *
        generalize (opAt os k).cls = oc at *
        generalize (opAt os k).n = on at *
        generalize (opAt os k).flag = of at *
        have HK : Hid (∀ w', From w3 w' → (w'.cell? ⟨b1, off1 + k * 6, none⟩ = some (.int .i64 ok) ∧ w'.cell? ⟨b1, off1 + k * 6 + 1, none⟩ = some (.int .i64 oi) ∧ w'.cell? ⟨b1, off1 + k * 6 + 2, none⟩ = some (.int .i64 oc) ∧ w'.cell? ⟨b1, off1 + k * 6 + 3, none⟩ = some (.int .i64 on) ∧ w'.cell? ⟨b1, off1 + k * 6 + 4, none⟩ = some (.bool of) ∧ w'.cell? ⟨b1, off1 + k * 6 + 5, none⟩ = some (.slice aa1 m cc1) ∧ w'.cell? ⟨b2, off2 + k * 6, none⟩ = some (.int .i64 ok) ∧ w'.cell? ⟨b2, off2 + k * 6 + 1, none⟩ = some (.int .i64 oi) ∧ w'.cell? ⟨b2, off2 + k * 6 + 2, none⟩ = some (.int .i64 oc) ∧ w'.cell? ⟨b2, off2 + k * 6 + 3, none⟩ = some (.int .i64 on) ∧ w'.cell? ⟨b2, off2 + k * 6 + 4, none⟩ = some (.bool of) ∧ w'.cell? ⟨b2, off2 + k * 6 + 5, none⟩ = some (.slice aa2 m cc2))) := fun w' hf => ⟨hf.cell p0, hf.cell p1, hf.cell p2, hf.cell p3, hf.cell p4, hf.cell p5, hf.cell r0, hf.cell r1, hf.cell r2, hf.cell r3, hf.cell r4, hf.cell r5⟩
        have hv0 : From w3 wr := hfw
        have hv1 : From w3 wr.drew := hv0.drew
        clear p0 p1 p2 p3 p4 p5 r0 r1 r2 r3 r4 r5 hfw
        go_wp2
        go_region_held3 (fun w' => (w'.cell? ⟨b1, off1 + k * 6, none⟩ = some (.int .i64 ok) ∧ w'.cell? ⟨b1, off1 + k * 6 + 1, none⟩ = some (.int .i64 oi) ∧ w'.cell? ⟨b1, off1 + k * 6 + 2, none⟩ = some (.int .i64 oc) ∧ w'.cell? ⟨b1, off1 + k * 6 + 3, none⟩ = some (.int .i64 on) ∧ w'.cell? ⟨b1, off1 + k * 6 + 4, none⟩ = some (.bool of) ∧ w'.cell? ⟨b1, off1 + k * 6 + 5, none⟩ = some (.slice aa1 m cc1) ∧ w'.cell? ⟨b2, off2 + k * 6, none⟩ = some (.int .i64 ok) ∧ w'.cell? ⟨b2, off2 + k * 6 + 1, none⟩ = some (.int .i64 oi) ∧ w'.cell? ⟨b2, off2 + k * 6 + 2, none⟩ = some (.int .i64 oc) ∧ w'.cell? ⟨b2, off2 + k * 6 + 3, none⟩ = some (.int .i64 on) ∧ w'.cell? ⟨b2, off2 + k * 6 + 4, none⟩ = some (.bool of) ∧ w'.cell? ⟨b2, off2 + k * 6 + 5, none⟩ = some (.slice aa2 m cc2)))
          (first
            | (with_reducible exact HK.out _ hv2)
            | (with_reducible exact HK.out _ hv1)
            | (with_reducible exact HK.out _ hv0))
          ((go_at_call 36; ((with_reducible refine (HE.out _ hv1).mono ?_)); rintro e v2 ⟨rfl, hb⟩; have hv2 : From w3 v2 := hv1.step hb; clear hb))
        go_wp2
        go_roundw
        case rel => exact ⟨k + 1, by omega, by go_num, hv2⟩
        case measure => first | (simp [intOf]; omega) | omega
      · have hkl : ¬ ((k : Int) < (q : Int)) := by omega
        go_wp2
        go_ret
        exact ⟨rfl, (F3.trans hfw).out⟩
/-- The lines without an operation that the law puts ahead. -/
def pxs (n : Nat) : List (List UInt8) := [[], [35, 32, 120], [35], []].take n
def ptext (n : Nat) : List UInt8 := olines (pxs n)
theorem pxs_len {n : Nat} (h : n ≤ 4) : (pxs n).length = n := by unfold pxs; simp; omega
theorem pxs_ok (n : Nat) : ∀ x ∈ pxs n, (10 : UInt8) ∉ x ∧ oskip x = true := fun x hx => by
  have key : ∀ x ∈ ([[], [35, 32, 120], [35], []] : List (List UInt8)), (10 : UInt8) ∉ x ∧ oskip x = true := by decide
  exact key x (List.mem_of_mem_take hx)
theorem ptext_len {n : Nat} (h : n ≤ 4) : (ptext n).length ≤ 100 := by
  have : n = 0 ∨ n = 1 ∨ n = 2 ∨ n = 3 ∨ n = 4 := by omega
  rcases this with rfl | rfl | rfl | rfl | rfl <;> decide
theorem ptext_add (w : World) (n : Nat) (x : List UInt8) (h : n ≤ 4) (hx : x.length ≤ 100) : (Op.stringOp .add (str (ptext n)) (str x)).run Tryz.prog w = .ok (.string (str (ptext n ++ x))) w := add_str w _ _ (by have := ptext_len h; omega)
set_option maxHeartbeats 8000000 in
set_option maxRecDepth 100000 in
theorem scriptComments_walk (s : ByteArray) (many : Int) (w : World) (hm0 : 0 ≤ many) (hm1 : many ≤ 255) (hW : ScrW w) :
    Calls Tryz.prog 13 #[.string s, .int .u8 many] w fun e w' => e = .returned (.bool true) ∧ Below w.heap.size w w' := by
  have HA : Hid (∀ w', From w w' → Calls Tryz.prog 32 #[] w' fun r w'' => r = .returned (.bool true) ∧ Below w'.heap.size w' w'') := fun w' hf => awake04_any w' (hW.from_ hf)
  have F0 := From.refl w
  by_cases h1000 : 1000 < s.size
  · clear hW
    go_enter Tryz.func13, Tryz.ntmps13
    go_wp2_with fail
    refine (HA.out _ F0).mono ?_
    rintro e w1 ⟨rfl, hb⟩
    have F1 := F0.step hb
    clear hb
    go_wp2_with fail
    refine (HA.out _ F1).mono ?_
    rintro e w2 ⟨rfl, hb⟩
    have F2 := F1.step hb
    clear hb
    go_wp2
    go_ret
    exact ⟨rfl, F2.out⟩
  have hs : s.size ≤ 1000 := by omega
  obtain ⟨n, hn⟩ : ∃ n : Nat, (n : Int) = many % 5 := ⟨(many % 5).toNat, by omega⟩
  have hn4 : n ≤ 4 := by omega
  have hmod : many.tmod 5 = (n : Int) := by rw [Int.tmod_eq_emod_of_nonneg hm0]; exact hn.symm
  have htx : (str (ptext n ++ s.data.toList)).size ≤ 2000 := by rw [str_size, List.length_append, size_toList]; have := ptext_len hn4; omega
  have H1 : Hid (∀ w', From w w' → Calls Tryz.prog 33 #[.string (str (ptext n ++ s.data.toList))] w' (ReadRet (oread (ptext n ++ s.data.toList)) w')) := fun w' hf => sread_any (str (ptext n ++ s.data.toList)) w' (by omega) (hW.from_ hf)
  have H2 : Hid (∀ w', Calls Tryz.prog 34 #[.string s] w' (RReadRet (oread s.data.toList) w')) := fun w' => orread_any s w' (by omega)
  have hsk := oread_skips (xs := pxs n) s.data.toList (pxs_ok n)
  rw [pxs_len hn4] at hsk
  have hsk' : oread (ptext n ++ s.data.toList) = match oread s.data.toList with | .inl j => .inl (j + n) | .inr os => .inr os := hsk
  have HAD : Hid (∀ w, (Op.stringOp .add (str (ptext n)) s).run Tryz.prog w = .ok (.string (str (ptext n ++ s.data.toList))) w) := fun w => add_str w (ptext n) s.data.toList (by have := ptext_len hn4; rw [size_toList]; omega)
  have HP1 : Hid (∀ w, (Op.stringOp .add (str (ptext 0)) ⟨#[10]⟩).run Tryz.prog w = .ok (.string (str (ptext 1))) w) := fun w => ptext_add w 0 [10] (by omega) (by decide)
  have HP2 : Hid (∀ w, (Op.stringOp .add (str (ptext 1)) ⟨#[35, 32, 120, 10]⟩).run Tryz.prog w = .ok (.string (str (ptext 2))) w) := fun w => ptext_add w 1 [35, 32, 120, 10] (by omega) (by decide)
  have HP3 : Hid (∀ w, (Op.stringOp .add (str (ptext 2)) ⟨#[35, 10]⟩).run Tryz.prog w = .ok (.string (str (ptext 3))) w) := fun w => ptext_add w 2 [35, 10] (by omega) (by decide)
  have HP4 : Hid (∀ w, (Op.stringOp .add (str (ptext 3)) ⟨#[10]⟩).run Tryz.prog w = .ok (.string (str (ptext 4))) w) := fun w => ptext_add w 3 [10] (by omega) (by decide)
  have HERR : Hid (∀ w', From w w' → ErrType w') := fun w' hf => (hW.from_ hf).log.err
  have HLEN0 : Hid (∀ os, oread s.data.toList = .inr os → ∀ k, k < os.length → (opAt os k).am.length ≤ 200000) := fun os h => oread_len s (by omega) h
  have hmI : (0 : Int) ≤ many := hm0
  have HSK := Lib.hid hsk'
  clear hW h1000 hsk hsk' hn
  obtain ⟨tx, htxe⟩ : ∃ tx, tx = ptext n ++ s.data.toList := ⟨_, rfl⟩
  rw [← htxe] at HAD H1 HSK
  clear htxe htx
  go_enter Tryz.func13, Tryz.ntmps13
  go_wp2_with fail
  refine (HA.out _ F0).mono ?_
  rintro e w1 ⟨rfl, hb⟩
  have F1 := F0.step hb
  clear hb
  go_wp2
  go_loopw [6, 7] (fun pv iv wr => ∃ k : Nat, k ≤ n ∧ iv = .int .i64 k ∧ pv = .string (str (ptext k)) ∧ From w1 wr) (fun _ iv _ => n - (intOf iv).toNat)
  case atStart => exact ⟨0, Nat.zero_le _, rfl, rfl, From.refl _⟩
  case round =>
    obtain ⟨k, hk, rfl, rfl, hfw⟩ := hrel
    by_cases hlt : k < n
    · have hkl : (k : Int) < (n : Int) := by omega
      have h4 : k = 0 ∨ k = 1 ∨ k = 2 ∨ k = 3 := by omega
      clear hk hlt
      rcases h4 with rfl | rfl | rfl | rfl
      · have ha := HP1.out
        generalize str (ptext 0) = t0 at *
        go_wp2
        go_roundw
        case rel => exact ⟨1, by omega, rfl, rfl, hfw.alloc _⟩
        case measure => first | (simp [intOf]; omega) | omega
      · have ha := HP2.out
        generalize str (ptext 1) = t0 at *
        go_wp2
        go_roundw
        case rel => exact ⟨2, by omega, rfl, rfl, hfw.alloc _⟩
        case measure => first | (simp [intOf]; omega) | omega
      · have ha := HP3.out
        generalize str (ptext 2) = t0 at *
        go_wp2
        go_roundw
        case rel => exact ⟨3, by omega, rfl, rfl, hfw.alloc _⟩
        case measure => first | (simp [intOf]; omega) | omega
      · have ha := HP4.out
        generalize str (ptext 3) = t0 at *
        go_wp2
        go_roundw
        case rel => exact ⟨4, by omega, rfl, rfl, hfw.alloc _⟩
        case measure => first | (simp [intOf]; omega) | omega
    · obtain rfl : k = n := by omega
      have hkl : ¬ ((k : Int) < (k : Int)) := by omega
      have ha := HAD.out
      have G1 := F1.trans hfw
      clear hk hlt hmod HP1 HP2 HP3 HP4
      generalize str (ptext k) = t0 at *
      cases hr : oread s.data.toList with
      | inl j =>
        have HR := Lib.hid hr
        have HR2 : Hid (oread tx = .inl (j + k)) := by rw [HSK.out, hr]; rfl
        have HWr : Hid (∀ w', From w w' → Calls Tryz.prog 35 #[.iface 113 (.agg #[.int .i64 9, .int .i64 ((j : Int) + (k : Int))]), .int .i64 9, .int .i64 ((j : Int) + (k : Int))] w' fun r w'' => r = .returned (.bool true) ∧ Below w'.heap.size w' w'') := fun w' hf => by
          have h := wrong_fault 9 ((j : Int) + (k : Int)) 9 ((j : Int) + (k : Int)) w' (HERR.out _ hf)
          rw [show ((9 : Int) == 9 && ((j : Int) + (k : Int)) == ((j : Int) + (k : Int))) = true by simp] at h
          exact h
        have hjl : j ≤ 2000 := by
          have := oreads_le _ 0 j hr
          have := splits_len s [10] (by simp)
          omega
        have hji : (0 : Int) ≤ (j : Int) := by omega
        clear hr
        go_wp2_with fail
        refine (H1.out _ G1).mono ?_
        rintro e w2 hret
        obtain ⟨hb, rfl⟩ := hret.bad HR2.out
        have F2 := G1.step hb
        clear hb hret
        go_wp2_with fail
        refine (H2.out _).mono ?_
        rintro e w3 hret
        obtain ⟨hb, rfl⟩ := hret.bad HR.out
        have F3 := F2.step hb
        clear hb hret
        simp only [Int.natCast_add]
        go_wp2_with fail
        refine (HWr.out _ F3).mono ?_
        rintro e w4 ⟨rfl, hb⟩
        have F4 := F3.step hb
        clear hb
        go_wp2
        go_ret
        exact ⟨rfl, F4.out⟩
      | inr os =>
        have HR := Lib.hid hr
        have HR2 : Hid (oread tx = .inr os) := by rw [HSK.out, hr]; rfl
        have HLEN := Lib.hid (HLEN0.out os hr)
        have hoc := oread_count s hr
        clear hr
        go_wp2_with fail
        refine (H1.out _ G1).mono ?_
        rintro e w2 hret
        obtain ⟨hb, v1, rfl, ho1⟩ := hret.ok HR2.out
        have F2 := G1.step hb
        have HO1 := Lib.hid ho1.at_
        obtain ⟨x1, y1, rfl⟩ := ho1.shape
        clear hb hret ho1
        go_wp2_with fail
        refine (H2.out _).mono ?_
        rintro e w3 hret
        obtain ⟨hb, v2, rfl, ho2⟩ := hret.ok HR.out
        have F3 := F2.step hb
        obtain ⟨a1, c1, e1, hg1⟩ := (HO1.out.below hb).get
        obtain ⟨a2, c2, e2, hg2⟩ := ho2.at_.get
        subst e2
        rw [Value.slice.injEq] at e1
        obtain ⟨rfl, -, rfl⟩ := e1
        obtain ⟨q, hq⟩ : ∃ q, q = os.length := ⟨_, rfl⟩
        rw [← hq] at hg1 hg2 HLEN hoc ⊢
        have HG1 := Lib.hid hg1
        have HG2 := Lib.hid hg2
        clear hb hret ho2 hg1 hg2 HO1 hq H1 H2 HA HAD ha HLEN0 HERR
        go_wp2
        go_loopw [12] (fun iv wr => ∃ k : Nat, k ≤ q ∧ iv = .int .i64 k ∧ From w3 wr) (fun iv _ => q - (intOf iv).toNat)
        case atStart => exact ⟨0, Nat.zero_le _, rfl, From.refl _⟩
        case round =>
          obtain ⟨k, hk, rfl, hfw⟩ := hrel
          have hki : (0 : Int) ≤ (k : Int) := by omega
          by_cases hlt : k < q
          · obtain ⟨b1, off1, aa1, cc1, rfl, hb1, hc1, hi1⟩ := HG1.out k hlt
            obtain ⟨b2, off2, aa2, cc2, rfl, hb2, hc2, hi2⟩ := HG2.out k hlt
            have hkl : (k : Int) < (q : Int) := by omega
            have hml : (opAt os k).am.length * 8 ≤ 140737488351232 := by have := HLEN.out k hlt; omega
            have HE : Hid (∀ w', From w3 w' → Calls Tryz.prog 36 #[opV (opAt os k).kind (opAt os k).id (opAt os k).cls (opAt os k).n (opAt os k).flag (.slice aa1 (opAt os k).am.length cc1), opV (opAt os k).kind (opAt os k).id (opAt os k).cls (opAt os k).n (opAt os k).flag (.slice aa2 (opAt os k).am.length cc2)] w' fun r w'' => r = .returned (.bool true) ∧ Below w'.heap.size w' w'') := fun w' hf => by
              have h1 := refEqual_any (opAt os k).kind (opAt os k).id (opAt os k).cls (opAt os k).n (opAt os k).flag _ (opAt os k).am (opAt os k).kind (opAt os k).id (opAt os k).cls (opAt os k).n (opAt os k).flag _ (opAt os k).am w' hml hml (hi1.from_ hf) (hi2.from_ hf)
              rw [eqOp_refl] at h1
              exact h1
            obtain ⟨p0, p1, p2, p3, p4, p5⟩ := hc1
            obtain ⟨r0, r1, r2, r3, r4, r5⟩ := hc2
            clear hi1 hi2 hml
            generalize (opAt os k).am.length = m at *
            generalize (opAt os k).kind = ok at *
            generalize (opAt os k).id = oi at *
            generalize (opAt os k).cls = oc at *
            generalize (opAt os k).n = on at *
            generalize (opAt os k).flag = of at *
            have HK : Hid (∀ w', From w3 w' → (w'.cell? ⟨b1, off1 + k * 6, none⟩ = some (.int .i64 ok) ∧ w'.cell? ⟨b1, off1 + k * 6 + 1, none⟩ = some (.int .i64 oi) ∧ w'.cell? ⟨b1, off1 + k * 6 + 2, none⟩ = some (.int .i64 oc) ∧ w'.cell? ⟨b1, off1 + k * 6 + 3, none⟩ = some (.int .i64 on) ∧ w'.cell? ⟨b1, off1 + k * 6 + 4, none⟩ = some (.bool of) ∧ w'.cell? ⟨b1, off1 + k * 6 + 5, none⟩ = some (.slice aa1 m cc1) ∧ w'.cell? ⟨b2, off2 + k * 6, none⟩ = some (.int .i64 ok) ∧ w'.cell? ⟨b2, off2 + k * 6 + 1, none⟩ = some (.int .i64 oi) ∧ w'.cell? ⟨b2, off2 + k * 6 + 2, none⟩ = some (.int .i64 oc) ∧ w'.cell? ⟨b2, off2 + k * 6 + 3, none⟩ = some (.int .i64 on) ∧ w'.cell? ⟨b2, off2 + k * 6 + 4, none⟩ = some (.bool of) ∧ w'.cell? ⟨b2, off2 + k * 6 + 5, none⟩ = some (.slice aa2 m cc2))) := fun w' hf => ⟨hf.cell p0, hf.cell p1, hf.cell p2, hf.cell p3, hf.cell p4, hf.cell p5, hf.cell r0, hf.cell r1, hf.cell r2, hf.cell r3, hf.cell r4, hf.cell r5⟩
            have hv0 : From w3 wr := hfw
            have hv1 : From w3 wr.drew := hv0.drew
            clear p0 p1 p2 p3 p4 p5 r0 r1 r2 r3 r4 r5 hfw
            go_wp2
            go_region_held3 (fun w' => (w'.cell? ⟨b1, off1 + k * 6, none⟩ = some (.int .i64 ok) ∧ w'.cell? ⟨b1, off1 + k * 6 + 1, none⟩ = some (.int .i64 oi) ∧ w'.cell? ⟨b1, off1 + k * 6 + 2, none⟩ = some (.int .i64 oc) ∧ w'.cell? ⟨b1, off1 + k * 6 + 3, none⟩ = some (.int .i64 on) ∧ w'.cell? ⟨b1, off1 + k * 6 + 4, none⟩ = some (.bool of) ∧ w'.cell? ⟨b1, off1 + k * 6 + 5, none⟩ = some (.slice aa1 m cc1) ∧ w'.cell? ⟨b2, off2 + k * 6, none⟩ = some (.int .i64 ok) ∧ w'.cell? ⟨b2, off2 + k * 6 + 1, none⟩ = some (.int .i64 oi) ∧ w'.cell? ⟨b2, off2 + k * 6 + 2, none⟩ = some (.int .i64 oc) ∧ w'.cell? ⟨b2, off2 + k * 6 + 3, none⟩ = some (.int .i64 on) ∧ w'.cell? ⟨b2, off2 + k * 6 + 4, none⟩ = some (.bool of) ∧ w'.cell? ⟨b2, off2 + k * 6 + 5, none⟩ = some (.slice aa2 m cc2)))
              (first
                | (with_reducible exact HK.out _ hv2)
                | (with_reducible exact HK.out _ hv1)
                | (with_reducible exact HK.out _ hv0))
              ((go_at_call 36; ((with_reducible refine (HE.out _ hv1).mono ?_)); rintro e v2 ⟨rfl, hb⟩; have hv2 : From w3 v2 := hv1.step hb; clear hb))
            go_wp2
            go_roundw
            case rel => exact ⟨k + 1, by omega, by go_num, hv2⟩
            case measure => first | (simp [intOf]; omega) | omega
          · have hkl : ¬ ((k : Int) < (q : Int)) := by omega
            go_wp2
            go_ret
            exact ⟨rfl, (F3.trans hfw).out⟩
end Go.Proofs.YtdclokpoeaehlaaGreatDoor
