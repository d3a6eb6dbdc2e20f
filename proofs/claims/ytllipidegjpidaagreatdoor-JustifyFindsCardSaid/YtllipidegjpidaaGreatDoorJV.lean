/- vec.Add of one or two vectors of one element; reserve.Pods, reserve.Sum. -/
import Derived.Test.YtllipidegjpidaaGreatDoorJU
import Derived.Test.YtllipidegjpidaaGreatDoorAuF
import Derived.Test.YtllipidegjpidaaGreatDoorKit
import Derived.Test.YtllipidegjpidaaGreatDoorRow
namespace Go.Proofs.YtllipidegjpidaaGreatDoor
set_option linter.all false
open Go.RowKit

theorem Kin.append1_op {α : Type} (k : Kin α) {w : World} {o : Oper} {a : Act} {K : Act → World → Prop} {Q : Exit → Act → World → Prop} (s x : Operand)
    (ho : o.op = .call { callee := .builtin .append, args := #[s, x], argTypes := #[k.t, k.t] }) (base : Nat)
    (v : Value) (xs : List α) (hs : a.eval s = v) (hown : k.Own base w v xs) (g : Nat) (y : α) (hx : a.eval x = .slice (some ⟨g, 0, none⟩) 1 1)
    (hc : ∀ j u, (k.enc y)[j]? = some u → w.cell? ⟨g, j, none⟩ = some u) (hn : xs.length + 1 ≤ maxLen) (hby : (xs.length + 1) * k.bytes ≤ 140737488355328) (hbase : base ≤ w.heap.size)
    (h : ∀ v' w', k.Own base w' v' (xs ++ [y]) → Below base w w' → w.grownBy w' v.ownBlock → K (a.put o.dst v') w') : o.wp Tryz.prog a w K Q := by
  obtain ⟨i, hi, hz, hz1, hz2⟩ := info_parts k.hi
  have hrowge : ∀ b, v.ownBlock = some b → base ≤ b := fun b hb => (World.ownsRow.lt hown b hb).1
  obtain ⟨v', w', hr, h2, h3, -⟩ := run_append_own (P := Tryz.prog) w base k.t o.type k.e i k.zero k.size k.bytes k.ht hi hz hz1 hz2 k.hz k.pos v xs.length (k.row xs) hown ⟨g, 0, none⟩ 1 1 (k.enc y) (by rw [k.len]; omega)
    (fun j u hu => by rw [add_mk, Nat.zero_add]; exact hc j u hu) (k.one y) hn hby hbase
  have e : k.row (xs ++ [y]) = k.row xs ++ k.enc y := by rw [k.row_append]; simp [Kin.row]
  have h' := h v' w' (by unfold Kin.Own; rw [e, List.length_append]; exact h2) ((Below.refl _ _).grown h3 hbase hrowge) h3
  unfold Oper.wp
  simp [execOp, ho, resolve, invoke, builtin, hs, hx, hr, Result.andThen]
  exact h'

theorem ints_one {w : World} {b o c : Nat} {x : Int} (h : w.cell? ⟨b, o, none⟩ = some (.int .i64 x)) : IntsAt w (.slice (some ⟨b, o, none⟩) 1 c) [x] :=
  ⟨_, _, rfl, .inr ⟨b, o, rfl, cell_lt h, fun j hj => by
    match j, hj with
    | 0, _ => exact h⟩⟩
theorem mild_of {vs : List (List Int)} (h : ∀ z ∈ vs, ∀ i, 0 ≤ z.getD i 0 ∧ z.getD i 0 ≤ 281474976710656) : Mild vs := fun j i => by
  by_cases hj : j < vs.length
  · exact h _ (List.mem_of_getElem? (vAt_get hj)) i
  · have : vAt vs j = [] := by unfold vAt; rw [List.getD_eq_getElem?_getD, List.getElem?_eq_none (by omega)]; rfl
    rw [this]; simp
theorem one_get (x : Int) (i : Nat) (h0 : 0 ≤ x) (h1 : x ≤ 281474976710656) : 0 ≤ ([x] : List Int).getD i 0 ∧ ([x] : List Int).getD i 0 ≤ 281474976710656 := by
  match i with
  | 0 => exact ⟨h0, h1⟩
  | _ + 1 => simp
theorem vecs1 {base : Nat} {w : World} {v : Value} {b o c : Nat} {x : Int} (ho : kVec.Own base w v [⟨some ⟨b, o, none⟩, 1, c⟩]) (h : w.cell? ⟨b, o, none⟩ = some (.int .i64 x)) : AtVecs w v [[x]] :=
  ⟨_, ho.at_, rfl, fun j y z hy hz => by
    match j, hy, hz with
    | 0, hy, hz => cases hy; cases hz; exact ⟨rfl, ints_one h⟩⟩
theorem vecs2 {base : Nat} {w : World} {v : Value} {b o c b' o' c' : Nat} {x y : Int} (ho : kVec.Own base w v [⟨some ⟨b, o, none⟩, 1, c⟩, ⟨some ⟨b', o', none⟩, 1, c'⟩]) (h : w.cell? ⟨b, o, none⟩ = some (.int .i64 x)) (h' : w.cell? ⟨b', o', none⟩ = some (.int .i64 y)) : AtVecs w v [[x], [y]] :=
  ⟨_, ho.at_, rfl, fun j u z hu hz => by
    match j, hu, hz with
    | 0, hu, hz => cases hu; cases hz; exact ⟨rfl, ints_one h⟩
    | 1, hu, hz => cases hu; cases hz; exact ⟨rfl, ints_one h'⟩⟩
/-- What vec.Add answers. -/
def AddRet (w : World) (s : Int) (e : Ending) (w' : World) : Prop := ∃ b o c, e = .returned (.tuple #[.slice (some ⟨b, o, none⟩) 1 c, .bool true]) ∧ w'.cell? ⟨b, o, none⟩ = some (.int .i64 s) ∧ w.heap.size ≤ b ∧ Below w.heap.size w w'
theorem addRet_of {w w' : World} {a : Option Addr} {cp : Nat} {s : Int} {e : Ending} (he : e = .returned (.tuple #[.slice a 1 cp, .bool true])) (hi : IntsNew w.heap.size w' (.slice a 1 cp) [s]) (hb : Below w.heap.size w w') : AddRet w s e w' := by
  subst he
  obtain ⟨a', c', he, h0 | ⟨b, off, rfl, h2, h3, h4⟩⟩ := hi
  · cases h0
  · cases he
    exact ⟨b, off, cp, rfl, h4 0 (by simp), h2, hb⟩
theorem vadd1 {base : Nat} {w : World} {v : Value} {b o c : Nat} {x : Int} (ho : kVec.Own base w v [⟨some ⟨b, o, none⟩, 1, c⟩]) (h : w.cell? ⟨b, o, none⟩ = some (.int .i64 x)) (h0 : 0 ≤ x) (h1 : x ≤ 281474976710656) : Calls Tryz.prog 143 #[v] w (AddRet w x) := by
  refine (vadd_any v [[x]] 1 w (vecs1 ho h) (by simp) (by simp) (by decide) (fun j hj => ?_) (mild_of fun z hz i => ?_)).mono ?_
  · match j, hj with
    | 0, _ => rfl
  · simp only [List.mem_singleton] at hz; subst hz; exact one_get x i h0 h1
  · rintro e w' ⟨a, cp, he, hi, hb⟩
    have : vsum 1 [[x]] = [x] := by simp [vsum, colsum, List.range_succ]
    rw [this] at hi
    exact addRet_of he hi hb
theorem vadd2 {base : Nat} {w : World} {v : Value} {b o c b' o' c' : Nat} {x y : Int} (ho : kVec.Own base w v [⟨some ⟨b, o, none⟩, 1, c⟩, ⟨some ⟨b', o', none⟩, 1, c'⟩]) (h : w.cell? ⟨b, o, none⟩ = some (.int .i64 x)) (h' : w.cell? ⟨b', o', none⟩ = some (.int .i64 y)) (h0 : 0 ≤ x) (h1 : x ≤ 281474976710656) (h2 : 0 ≤ y) (h3 : y ≤ 281474976710656) : Calls Tryz.prog 143 #[v] w (AddRet w (x + y)) := by
  refine (vadd_any v [[x], [y]] 1 w (vecs2 ho h h') (by simp) (by simp) (by decide) (fun j hj => ?_) (mild_of fun z hz i => ?_)).mono ?_
  · match j, hj with
    | 0, _ => rfl
    | 1, _ => rfl
  · simp only [List.mem_cons, List.not_mem_nil, or_false] at hz; rcases hz with rfl | rfl
    · exact one_get x i h0 h1
    · exact one_get y i h2 h3
  · rintro e w' ⟨a, cp, he, hi, hb⟩
    have : vsum 1 [[x], [y]] = [x + y] := by simp [vsum, colsum, List.range_succ]
    rw [this] at hi
    exact addRet_of he hi hb
set_option maxRecDepth 100000 in
theorem pindexNil_any (f : Value) (c : Nat) (w : World) : Calls Tryz.prog 151 #[.slice none 0 c, f] w fun e w' => e = .returned (.int .i64 (-1)) ∧ w = w' := by
  go_enter Tryz.func151, Tryz.ntmps151
  go_wp2
  refine wp_loop_rounds 1 ?_
  rw [rounds_succ]
  go_wp2
  go_ret
  exact ⟨rfl, rfl⟩
set_option maxRecDepth 100000 in
theorem pdelNil_any (f : Value) (c : Nat) (w : World) : Calls Tryz.prog 129 #[.slice none 0 c, f] w fun e w' => e = .returned (.slice none 0 c) ∧ w = w' := by
  have HI := Lib.hid (pindexNil_any f c w)
  go_enter Tryz.func129, Tryz.ntmps129
  go_wp2_with fail
  refine HI.out.mono ?_
  rintro e w1 ⟨rfl, rfl⟩
  go_wp2
  go_ret
  exact ⟨rfl, rfl⟩
set_option maxHeartbeats 1000000 in
set_option maxRecDepth 100000 in
theorem rpods_any (b bp op cp : Nat) (w : World) (h : ClF w b) : Calls Tryz.prog 182 #[.pointer (some ⟨b + 6, 0, none⟩), pod1V bp op cp, .int .i64 7] w fun e w' => e = .returned (.slice none 0 0) ∧ From w w' := by
  have HO : Hid (∀ X, From w X → Calls Tryz.prog 130 #[.pointer (some ⟨b + 6, 0, none⟩), .int .i64 7] X fun e w' => e = .returned (.slice none 0 0) ∧ From X w') := fun X f => con_any b X (h.below f.out)
  have HD := Lib.hid fun f w => pdelNil_any f 0 w
  clear h
  go_enter Tryz.func182, Tryz.ntmps182
  go_wp2_with fail
  refine (HO.out _ (((From.refl w).alloc _).alloc _)).mono ?_
  rintro e w1 ⟨rfl, f1⟩
  have F1 := Lib.hid ((((From.refl w).alloc _).alloc _).trans f1)
  clear f1
  go_wp2_with fail
  refine (HD.out _ _).mono ?_
  rintro e w2 ⟨rfl, rfl⟩
  go_wp2
  go_ret
  exact ⟨rfl, F1.out⟩
set_option maxHeartbeats 4000000 in
set_option maxRecDepth 100000 in
theorem rsum_any (b bp op cp : Nat) (w : World) (h : ClF w b) : Calls Tryz.prog 168 #[.pointer (some ⟨b + 6, 0, none⟩), pod1V bp op cp, .int .i64 7] w fun e w' => ∃ g o c, e = .returned (.slice (some ⟨g, o, none⟩) 1 c) ∧ w'.cell? ⟨g, o, none⟩ = some (.int .i64 0) ∧ w.heap.size ≤ g ∧ Below w.heap.size w w' := by
  have HD : Hid (∀ X, From w X → Calls Tryz.prog 35 #[.pointer (some ⟨b + 6, 0, none⟩)] X fun e w' => e = .returned (.int .i64 1) ∧ From X w') := fun X f => by
    obtain ⟨br, orr, cr, bi, ci, b1, o1, c1, b2, o2, c2, hcl, -⟩ := h
    exact cdims_any b X (hcl.below f.out)
  have HZ := Lib.hid zero1_any
  have HP : Hid (∀ X, From w X → Calls Tryz.prog 182 #[.pointer (some ⟨b + 6, 0, none⟩), pod1V bp op cp, .int .i64 7] X fun e w' => e = .returned (.slice none 0 0) ∧ From X w') := fun X f => rpods_any b bp op cp X (h.below f.out)
  have HA := Lib.hid fun base w v b o c ho h => @vadd1 base w v b o c 0 ho h (by omega) (by omega)
  clear h
  obtain ⟨W0, hW0⟩ : ∃ W0, W0 = w.alloc (.cells #[.int .i64 1, .int .i64 0, .bool false, .int .i64 0, .slice (some ⟨bp, op, none⟩) 1 cp, .int .i64 0, .int .i64 1, .int .i64 (-1), .int .i64 (-1)] 40) := ⟨_, rfl⟩
  have F0 : From w W0 := by rw [hW0]; exact (From.refl w).alloc _
  have p0 : W0.cell? ⟨w.heap.size, 0, none⟩ = some (.int .i64 1) := by rw [hW0]; go_simp
  have p1 : W0.cell? ⟨w.heap.size, 1, none⟩ = some (.int .i64 0) := by rw [hW0]; go_simp
  have p2 : W0.cell? ⟨w.heap.size, 2, none⟩ = some (.bool false) := by rw [hW0]; go_simp
  have p3 : W0.cell? ⟨w.heap.size, 3, none⟩ = some (.int .i64 0) := by rw [hW0]; go_simp
  have p4 : W0.cell? ⟨w.heap.size, 4, none⟩ = some (.slice (some ⟨bp, op, none⟩) 1 cp) := by rw [hW0]; go_simp
  have p5 : W0.cell? ⟨w.heap.size, 5, none⟩ = some (.int .i64 0) := by rw [hW0]; go_simp
  have p6 : W0.cell? ⟨w.heap.size, 6, none⟩ = some (.int .i64 1) := by rw [hW0]; go_simp
  have p7 : W0.cell? ⟨w.heap.size, 7, none⟩ = some (.int .i64 (-1)) := by rw [hW0]; go_simp
  have p8 : W0.cell? ⟨w.heap.size, 8, none⟩ = some (.int .i64 (-1)) := by rw [hW0]; go_simp
  go_enter Tryz.func168, Tryz.ntmps168
  go_wp2_with fail
  rw [← hW0]
  clear hW0
  refine (HD.out _ F0).mono ?_
  rintro e W1 ⟨rfl, f1⟩
  go_wp2_with fail
  refine (HZ.out _).mono ?_
  rintro e W2 ⟨g, o, c, rfl, hz, hg, hb⟩
  have f2 : From W1 W2 := ⟨hb⟩
  have f12 := f1.trans f2
  have p0 := f12.cell p0
  have p1 := f12.cell p1
  have p2 := f12.cell p2
  have p3 := f12.cell p3
  have p4 := f12.cell p4
  have p5 := f12.cell p5
  have p6 := f12.cell p6
  have p7 := f12.cell p7
  have p8 := f12.cell p8
  have HF2 := Lib.hid (F0.trans f12)
  have hwl := cell_lt p0
  have HZC := Lib.hid hz
  have HO := Lib.hid (own_vec W2 ⟨some ⟨g, o, none⟩, 1, c⟩ (Nat.le_refl W2.heap.size))
  clear f1 f2 f12 F0 hz hb
  go_wp2_with fail
  refine (HP.out _ (HF2.out.alloc _)).mono ?_
  rintro e W3 ⟨rfl, f3⟩
  have HO3 := Lib.hid (HO.out.below f3.out)
  have HZ3 := Lib.hid (f3.cell (((From.refl W2).alloc _).cell HZC.out))
  have HF3 := Lib.hid ((HF2.out.alloc _).trans f3)
  clear f3
  go_wp2
  refine wp_loop_rounds 1 ?_
  rw [rounds_succ]
  go_wp2_with fail
  refine (HA.out _ _ _ _ _ _ HO3.out HZ3.out).mono ?_
  rintro e W4 ⟨g', o', c', rfl, hc', hg', hb'⟩
  have HC := Lib.hid hc'
  have HB := Lib.hid (HF3.out.step hb')
  have hs := HF3.out.out.size
  clear hc' hb'
  go_wp2
  go_ret
  exact ⟨g', o', c', rfl, HC.out, by omega, HB.out.out⟩
end Go.Proofs.YtllipidegjpidaaGreatDoor
