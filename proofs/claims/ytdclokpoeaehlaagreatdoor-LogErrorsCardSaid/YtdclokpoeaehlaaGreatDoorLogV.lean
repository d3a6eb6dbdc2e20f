/- LogJoins: the walk. -/
import Derived.Test.YtdclokpoeaehlaaGreatDoorLogU
namespace Go.Proofs.YtdclokpoeaehlaaGreatDoor
set_option linter.all false
open Go.RowKit

theorem run_append_none {P : Program} {w : World} {base : Nat} {t ty e : TypeId} {i : TypeInfo} {size c : Nat} (ht : P.underlying t = some (.slice e)) (hi : P.info? e = some i)
    (v : Value) (n : Nat) (xs : List Value) (hown : w.ownsRow base e size v n xs) :
    (Builtin.append_ #[t, t] ty #[v, .slice none 0 c]).run P w = .ok v w := by
  rcases hown.2 with ⟨rfl, rfl⟩ | ⟨g, cap, cur, rfl, _, _, hnc, _⟩
  · simp [Builtin.append_, run_underlying ht, sizeOf, typeInfo, hi, Builtin.lenOf, Builtin.firstCells]
  · simp [Builtin.append_, run_underlying ht, sizeOf, typeInfo, hi, Builtin.lenOf, Builtin.firstCells, hnc, storeCells]
theorem Kin.row_at {α : Type} (k : Kin α) : ∀ (ys : List α) (j : Nat) (u : Value), (k.row ys)[j]? = some u → ∃ q i x, ys[q]? = some x ∧ (k.enc x)[i]? = some u ∧ j = q * k.size + i
  | [], j, u, h => by simp [Kin.row] at h
  | y :: r, j, u, h => by
    simp only [Kin.row] at h
    rcases Nat.lt_or_ge j (k.enc y).length with hj | hj
    · rw [List.getElem?_append_left hj] at h
      exact ⟨0, j, y, rfl, h, by omega⟩
    · rw [List.getElem?_append_right hj] at h
      obtain ⟨q, i, x, h1, h2, h3⟩ := k.row_at r _ u h
      rw [k.len] at h3 hj
      exact ⟨q + 1, i, x, h1, h2, by rw [Nat.succ_mul]; omega⟩
/-- append of all elements of a slice that is read. -/
theorem Kin.appendAll {α : Type} (k : Kin α) {w : World} {ops : Array Oper} {rest : List Oper} {o : Oper} {a : Act} {Q : Exit → Act → World → Prop} (hgd : o.guard = none) (s x : Operand)
    (ho : o.op = .call { callee := .builtin .append, args := #[s, x], argTypes := #[k.t, k.t] }) (base : Nat)
    (v : Value) (xs : List α) (hs : a.eval s = v) (hown : k.Own base w v xs) (xv : Value) (ys : List α) (hx : a.eval x = xv) (hat : k.At w xv ys)
    (hn : xs.length + ys.length ≤ maxLen) (hby : (xs.length + ys.length) * k.bytes ≤ 140737488355328) (hbase : base ≤ w.heap.size)
    (h : ∀ v' w', k.Own base w' v' (xs ++ ys) → Below base w w' → wpList Tryz.prog ops Q rest (a.put o.dst v') w') : wpList Tryz.prog ops Q (o :: rest) a w := by
  obtain ⟨i0, hi, hz0, hz1, hz2⟩ := info_parts k.hi
  have hrowge : ∀ b, v.ownBlock = some b → base ≤ b := fun b hb => (World.ownsRow.lt hown b hb).1
  have hsome : ∀ ad cap, xv = .slice (some ad) ys.length cap → (∀ j u, (k.row ys)[j]? = some u → w.cell? (ad.add j) = some u) → wpList Tryz.prog ops Q (o :: rest) a w := by
    rintro ad cap rfl hc
    refine wpList_append_own w hgd s x k.t ho base k.e i0 k.zero k.size k.bytes k.ht hi hz0 hz1 hz2 k.hz k.pos v xs.length (k.row xs) hs hown ad ys.length cap (k.row ys) hx (k.row_length ys) hc (k.row_one ys) hn hby hbase (fun v' w' h1 h2 _ => ?_)
    refine h v' w' ?_ ((Below.refl _ _).grown h2 hbase hrowge)
    unfold Kin.Own
    rw [k.row_append, List.length_append]; exact h1
  obtain ⟨ax, cap, rfl, rfl | ⟨b, off, rfl, hlt, hc⟩⟩ := hat
  · cases ax with
    | some ad => exact hsome ad cap rfl (fun j u hu => by simp [Kin.row] at hu)
    | none =>
      have hrun := run_append_none (P := Tryz.prog) (w := w) (base := base) (t := k.t) (ty := o.type) (c := cap) k.ht hi v xs.length (k.row xs) hown
      refine wpList_plain hgd fun K hK => ?_
      unfold Oper.wp
      simp only [List.length_nil] at hx
      simp [execOp, ho, resolve, invoke, builtin, hs, hx, hrun, Result.andThen]
      exact hK _ _ (h v w (by rw [List.append_nil]; exact hown) (Below.refl _ _))
  · refine hsome _ cap rfl fun j u hu => ?_
    rw [add_mk]
    obtain ⟨q, i, x0, hx0, hi0, e⟩ := k.row_at ys j u hu
    rw [e, ← Nat.add_assoc]
    exact hc q x0 hx0 i u hi0
theorem joins_eq (a b : List Dec) : (danswer a = sNone → danswer (a ++ b) = danswer b) ∧ (danswer a ≠ sNone → danswer b = sNone → danswer (a ++ b) = danswer a) ∧ (danswer a ≠ sNone → danswer b ≠ sNone → danswer (a ++ b) = danswer a ++ [44, 32] ++ danswer b) := by
  rw [danswer_append]
  refine ⟨fun h => by rw [if_pos h], fun h h' => by rw [if_neg h, if_pos h'], fun h h' => by rw [if_neg h, if_neg h']⟩
theorem strNone (x : List UInt8) : ((str x).toList == [110, 111, 110, 101]) = decide (x = sNone) := by
  rw [ByteArray.toList_eq, Bool.eq_iff_iff, beq_iff_eq, decide_eq_true_eq]
  exact Iff.rfl
set_option maxHeartbeats 4000000 in
set_option maxRecDepth 100000 in
theorem logJoins_far (a b : Option Addr) (ca cb la lb : Nat) (w : World) (h0 : 50 < la ∨ (la ≤ 50 ∧ 50 < lb)) (HA : Hid (∀ w', From w w' → Calls Tryz.prog 14 #[] w' fun r w'' => r = .returned (.bool true) ∧ Below w'.heap.size w' w'')) :
    Calls Tryz.prog 7 #[.slice a la ca, .slice b lb cb] w fun e w' => e = .returned (.bool true) ∧ Below w.heap.size w w' := by
  have F0 := From.refl w
  rcases h0 with h0 | ⟨h0, h1⟩
  all_goals
    go_enter Tryz.func7, Tryz.ntmps7
    go_wp2_with fail
    refine (HA.out _ F0).mono ?_
    rintro e w1 ⟨rfl, hb⟩
    have F1 := F0.step hb
    clear hb
    go_wp2_with fail
    refine (HA.out _ F1).mono ?_
    rintro e w2 ⟨rfl, hb⟩
    have F2 := F1.step hb
    clear hb
    go_wp2
    go_ret
    exact ⟨rfl, F2.out⟩
set_option maxHeartbeats 4000000 in
set_option maxRecDepth 100000 in
theorem logJoins_walk (va vb : Value) (xs ys : List Dec) (w : World) (hx : xs.length * 32 ≤ 140737488351232) (hy : ys.length * 32 ≤ 140737488351232) (ha : kDec.At w va xs) (hb0 : kDec.At w vb ys) (hW : LogW w) :
    Calls Tryz.prog 7 #[va, vb] w fun e w' => e = .returned (.bool true) ∧ Below w.heap.size w w' := by
  have HA : Hid (∀ w', From w w' → Calls Tryz.prog 14 #[] w' fun r w'' => r = .returned (.bool true) ∧ Below w'.heap.size w' w'') := fun w' hf => awake24_any w' (hW.from_ hf)
  by_cases hfar : 50 < xs.length ∨ (xs.length ≤ 50 ∧ 50 < ys.length)
  · obtain ⟨a, ca, rfl, _⟩ := ha
    obtain ⟨b, cb, rfl, _⟩ := hb0
    exact logJoins_far a b ca cb _ _ w hfar HA
  have h50 : xs.length ≤ 50 := by omega
  have h51 : ys.length ≤ 50 := by omega
  have HA1 : Hid (∀ w', From w w' → Calls Tryz.prog 24 #[va, .nilIface] w' fun e w'' => e = .returned (.string (str (danswer xs))) ∧ Below w'.heap.size w' w'') := fun w' hf => lanswer_any va xs w' (by omega) (ha.below hf.out) (hW.from_ hf).tabs (hW.from_ hf).names
  have HA2 : Hid (∀ w', From w w' → Calls Tryz.prog 24 #[vb, .nilIface] w' fun e w'' => e = .returned (.string (str (danswer ys))) ∧ Below w'.heap.size w' w'') := fun w' hf => lanswer_any vb ys w' (by omega) (hb0.below hf.out) (hW.from_ hf).tabs (hW.from_ hf).names
  have HA3 : Hid (∀ w' u, From w w' → kDec.At w' u (xs ++ ys) → Calls Tryz.prog 24 #[u, .nilIface] w' fun e w'' => e = .returned (.string (str (danswer (xs ++ ys)))) ∧ Below w'.heap.size w' w'') := fun w' u hf h => lanswer_any u _ w' (by rw [List.length_append]; omega) h (hW.from_ hf).tabs (hW.from_ hf).names
  have hl1 := danswer_len xs (by omega)
  have hl2 := danswer_len ys (by omega)
  have J := joins_eq xs ys
  have e1 := strNone (danswer xs)
  have e2 := strNone (danswer ys)
  have HPa : Hid (∀ w', From w w' → kDec.At w' va xs) := fun w' hf => ha.below hf.out
  have HPb : Hid (∀ w', From w w' → kDec.At w' vb ys) := fun w' hf => hb0.below hf.out
  obtain ⟨a, ca, rfl, -⟩ := ha
  obtain ⟨b, cb, rfl, -⟩ := hb0
  generalize danswer xs = sa at *
  generalize danswer ys = sb at *
  generalize danswer (xs ++ ys) = sc at *
  have HLa : Hid (xs.length ≤ 50) := h50
  have HLb : Hid (ys.length ≤ 50) := h51
  have F0 := From.refl w
  obtain ⟨la, hla⟩ : ∃ n, n = xs.length := ⟨_, rfl⟩
  obtain ⟨lb, hlb⟩ : ∃ n, n = ys.length := ⟨_, rfl⟩
  rw [← hla] at h50 HA1 HPa ⊢
  rw [← hlb] at h51 HA2 HPb ⊢
  have HLA := Lib.hid hla
  have HLB := Lib.hid hlb
  clear hW hfar hla hlb hx hy
  have ht1 : (decide (sa = sNone)) = true ∨ (decide (sa = sNone)) = false := by cases decide (sa = sNone) <;> simp
  have HJ := Lib.hid J
  have E1 := Lib.hid e1
  have E2 := Lib.hid e2
  clear J e1 e2 ht1
  go_enter Tryz.func7, Tryz.ntmps7
  go_wp2_with fail
  refine (HA.out _ F0).mono ?_
  rintro e w1 ⟨rfl, hb⟩
  have F1 := F0.step hb
  clear hb
  go_wp2_with fail
  refine (HA1.out _ F1).mono ?_
  rintro e w2 ⟨rfl, hb⟩
  have F2 := F1.step hb
  clear hb
  go_wp2_with fail
  refine (HA2.out _ F2).mono ?_
  rintro e w3 ⟨rfl, hb⟩
  have F3 := F2.step hb
  have hs3 := F3.out.size
  clear hb
  have O1 : Hid (kDec.Own w3.heap.size (w3.alloc (.cells #[] 23)) (.slice (some ⟨w3.heap.size, 0, none⟩) 0 0) []) := World.ownsRow_made w3 #[] 0 (Nat.le_refl _) (by decide) rfl
  have G3 : From w (w3.alloc (.cells #[] 23)) := F3.alloc _
  have hmm : (2 : Nat) ^ 8 ≤ maxLen := by decide
  have hmx : 1000 ≤ maxLen := by unfold maxLen; omega
  go_wp2_with (first
    | (at_builtin; (refine Kin.appendAll kDec rfl _ _ rfl w3.heap.size _ [] rfl O1.out _ xs rfl (HPa.out _ G3) (by have := HLa.out; simp; omega) (by have := HLa.out; show _ * 32 ≤ _; simp; omega) (by simp) ?_); intro v4 w4 hown4 hb4; have HO4 := Lib.hid hown4; have G4 : From w w4 := ⟨(F3.out.alloc hs3 _).trans (hb4.mono hs3)⟩; have K4 : Hid (Below w3.heap.size w3 w4) := ((Below.refl _ w3).alloc (Nat.le_refl _) _).trans hb4; have hs4 := hb4.size; obtain ⟨a4, c4, rfl⟩ := hown4.shape; clear hown4 hb4)
    | (at_builtin; (refine Kin.appendAll kDec rfl _ _ rfl w3.heap.size _ ([] ++ xs) rfl HO4.out _ ys rfl (HPb.out _ G4) (by have := HLa.out; have := HLb.out; simp; omega) (by have := HLa.out; have := HLb.out; show _ * 32 ≤ _; simp; omega) (by simp at hs4; omega) ?_); intro v5 w5 hown5 hb5; have HO5 := Lib.hid hown5.at_; have G5 : From w w5 := ⟨G4.out.trans (hb5.mono hs3)⟩; obtain ⟨a5, c5, rfl⟩ := hown5.shape; clear hown5 hb5)
    | fail)
  have H6 := HO5.out
  rw [List.nil_append, List.length_append] at H6
  refine (HA3.out _ _ G5 H6).mono ?_
  rintro e w6 ⟨rfl, hb⟩
  have F6 := G5.step hb
  clear hb H6 HO5 HO4 O1 HA HA1 HA2 HA3 HPa HPb HLa HLb HLA HLB
  obtain ⟨J1, J2, J3⟩ := HJ.out
  have e1 := E1.out
  have e2 := E2.out
  clear HJ E1 E2
  have refl2 : ∀ x : List UInt8, ((str x).toList == (str x).toList) = true := fun x => by rw [beq_iff_eq]
  by_cases c1 : sa = sNone
  · obtain rfl := J1 c1
    have g1 : ((str sa).toList == [110, 111, 110, 101]) = true := by rw [e1, decide_eq_true c1]
    have g2 := refl2 sc
    clear e1 e2 J1 J2 J3 refl2 c1
    go_wp2
    go_ret
    exact ⟨rfl, F6.out⟩
  have g1 : ((str sa).toList == [110, 111, 110, 101]) = false := by rw [e1, decide_eq_false c1]
  by_cases c2 : sb = sNone
  · obtain rfl := J2 c1 c2
    have g3 : ((str sb).toList == [110, 111, 110, 101]) = true := by rw [e2, decide_eq_true c2]
    have g2 := refl2 sc
    clear e1 e2 J1 J2 J3 refl2 c1 c2
    go_wp2
    go_ret
    exact ⟨rfl, F6.out⟩
  have g3 : ((str sb).toList == [110, 111, 110, 101]) = false := by rw [e2, decide_eq_false c2]
  have g2 := refl2 (sa ++ 44 :: 32 :: sb)
  have hsc : sc = sa ++ 44 :: 32 :: sb := by rw [J3 c1 c2]; simp
  have ha1 : ∀ w, (Op.stringOp .add (str sa) ⟨#[44, 32]⟩).run Tryz.prog w = .ok (.string (str (sa ++ [44, 32]))) w := fun w => add_str w sa [44, 32] (by simp; omega)
  have ha2 : ∀ w, (Op.stringOp .add (str (sa ++ [44, 32])) (str sb)).run Tryz.prog w = .ok (.string (str (sa ++ 44 :: 32 :: sb))) w := fun w => by rw [add_str w _ sb (by simp; omega), List.append_assoc]; rfl
  subst hsc
  clear e1 e2 J1 J2 J3 refl2 c1 c2
  go_wp2
  go_ret
  exact ⟨by simp, F6.out⟩
end Go.Proofs.YtdclokpoeaehlaaGreatDoor
