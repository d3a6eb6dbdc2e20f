/- PodOnce: for every input the law returns true and its arguments read behind the call as before: the walk, the row over whatever heap in which the listed variables hold their data, and the tied card. -/
import Derived.Test.YtcegipkhmibdeaaDoorPods4
import Derived.DeepKeys
import Derived.Test.YtcegipkhmibdeaaDoorPods1
import Derived.Test.YtcegipkhmibdeaaDoorFacts
import Derived.Test.YtcegipkhmibdeaaDoorCards
import Derived.Test.YtcegipkhmibdeaaDoorTie
import Derived.WalkKit
import Derived.ProofKit
import Derived.OpenShut
import Derived.ShutString
import Derived.Below
import Derived.SizedLaws
import Derived.SevenTiedAt
import Derived.LaidMore
import Derived.Stop.Joined
/- hammocklaw13.PodOnce returns true. -/
namespace Go.Proofs.YtcegipkhmibdeaaDoor
set_option linter.all false
open Go.RowKit

theorem nx_one {p : Int} (h : nx p 1 ≠ 0) : p < 3 ∧ nx p 1 = 3 := by
  revert h; unfold nx; simp; omega
theorem nx_five {p : Int} (h : nx p 5 ≠ 0) : p ≠ 5 ∧ nx p 5 = 5 := by
  revert h; unfold nx; simp; omega
theorem nx_up {p e : Int} (h3 : 3 ≤ p) (h : nx p e ≠ 0) : 3 ≤ nx p e ∧ p ≠ 5 := by
  revert h
  unfold nx
  repeat' split
  all_goals (intro h; first | exact absurd rfl h | omega)
/-- Each accepted Bind and Free, and what it has left. -/
def DoneOk (ps : List Pod) (D : List (Int × Int)) : Prop := ∀ d ∈ D, ∃ i : Nat, findI ps 0 d.1 = (i : Int) ∧ ((d.2 = 1 ∧ 3 ≤ (podAt ps i).ph) ∨ (d.2 = 5 ∧ (podAt ps i).ph = 5))
theorem DoneOk.sub {ps : List Pod} {D : List (Int × Int)} (h : DoneOk ps D) (n : Int) (p : Pod) : DoneOk (subR ps n p).1 D := by
  unfold subR
  by_cases hf : 0 ≤ findI ps 0 p.id
  · rw [if_pos hf]; exact h
  rw [if_neg hf]
  by_cases hs : n ≤ (ps.length : Int)
  · rw [if_pos hs]; exact h
  rw [if_neg hs]
  intro d hd
  obtain ⟨i, h1, h2⟩ := h d hd
  refine ⟨i, ?_, ?_⟩
  · show findI (ps ++ [newPod ps p]) 0 d.1 = _
    rw [findI_append_old _ _ _ _ (by omega)]; exact h1
  · show _ ∨ (_ ∧ (podAt (ps ++ [newPod ps p]) i).ph = 5)
    rw [podAt_append_old (by have := (findI_some h1).2.1; omega)]; exact h2
theorem appR_ok {ps : List Pod} {id ev node dead : Int} (hc : (appR ps id ev node dead).2 = 0) : ∃ i : Nat, findI ps 0 id = (i : Int) ∧ i < ps.length ∧ nx (podAt ps i).ph ev ≠ 0 ∧ (appR ps id ev node dead).1 = ps.set i (turned (podAt ps i) ev node dead) := by
  unfold appR at hc ⊢
  by_cases hf : findI ps 0 id < 0
  · rw [if_pos hf] at hc; simp at hc
  rw [if_neg hf] at hc ⊢
  obtain ⟨i, hi1⟩ : ∃ i : Nat, findI ps 0 id = (i : Int) := ⟨(findI ps 0 id).toNat, by omega⟩
  rw [show (findI ps 0 id).toNat = i by omega] at hc ⊢
  have hil : i < ps.length := by have := (findI_some hi1).2.1; omega
  by_cases hx : nx (podAt ps i).ph ev = 0
  · rw [if_pos hx] at hc; simp at hc
  rw [if_neg hx] at hc ⊢
  exact ⟨i, hi1, hil, hx, rfl⟩
theorem appR_no {ps : List Pod} {id ev node dead : Int} (hc : (appR ps id ev node dead).2 ≠ 0) : (appR ps id ev node dead).1 = ps := by
  unfold appR at hc ⊢
  by_cases hf : findI ps 0 id < 0
  · rw [if_pos hf]
  rw [if_neg hf] at hc ⊢
  by_cases hx : nx (podAt ps (findI ps 0 id).toNat).ph ev = 0
  · rw [if_pos hx]
  · rw [if_neg hx] at hc; simp at hc
theorem DoneOk.app {ps : List Pod} {D : List (Int × Int)} (h : DoneOk ps D) (id ev node dead : Int) : DoneOk (appR ps id ev node dead).1 D := by
  by_cases hc : (appR ps id ev node dead).2 = 0
  · obtain ⟨i, h1, h2, h3, h4⟩ := appR_ok hc
    rw [h4]
    intro d hd
    obtain ⟨j, g1, g2⟩ := h d hd
    refine ⟨j, ?_, ?_⟩
    · rw [findI_set ps 0 i (turned (podAt ps i) ev node dead) _ h2 rfl]; exact g1
    · rw [podAt_set h2]
      by_cases hji : j = i
      · subst hji
        rw [if_pos rfl]
        show (_ ∧ 3 ≤ nx (podAt ps j).ph ev) ∨ (_ ∧ nx (podAt ps j).ph ev = 5)
        rcases g2 with ⟨e1, e2⟩ | ⟨e1, e2⟩
        · exact .inl ⟨e1, (nx_up e2 h3).1⟩
        · exact absurd e2 (nx_up (by omega) h3).2
      · rw [if_neg hji]; exact g2
  · rw [appR_no hc]; exact h
theorem DoneOk.more {ps : List Pod} {D : List (Int × Int)} (h : DoneOk ps D) {id ev node dead : Int} (hc : (appR ps id ev node dead).2 = 0) (he : ev = 1 ∨ ev = 5) :
    (∀ d ∈ D, ¬ (d.1 = id ∧ d.2 = ev)) ∧ DoneOk (appR ps id ev node dead).1 (D ++ [(id, ev)]) := by
  have ha := h.app id ev node dead
  obtain ⟨i, h1, h2, h3, h4⟩ := appR_ok hc
  refine ⟨fun d hd ⟨e1, e2⟩ => ?_, fun d hd => ?_⟩
  · obtain ⟨j, g1, g2⟩ := h d hd
    rw [e1, h1] at g1
    have : j = i := by omega
    subst this
    rcases he with rfl | rfl
    · have := (nx_one h3).1; omega
    · have := (nx_five h3).1; omega
  · rcases List.mem_append.1 hd with hd | hd
    · exact ha d hd
    · simp at hd
      subst hd
      refine ⟨i, ?_, ?_⟩
      · rw [h4, findI_set ps 0 i (turned (podAt ps i) ev node dead) _ h2 rfl]; exact h1
      · rw [h4, podAt_set h2, if_pos rfl]
        show (_ ∧ 3 ≤ nx (podAt ps i).ph ev) ∨ (_ ∧ nx (podAt ps i).ph ev = 5)
        rcases he with rfl | rfl
        · exact .inl ⟨rfl, by rw [(nx_one h3).2]; decide⟩
        · exact .inr ⟨rfl, (nx_five h3).2⟩
theorem eqlI2 (a b c d : Int) (w : World) : (binOp .eql 71 (.agg #[.int .i64 a, .int .i64 b]) (.agg #[.int .i64 c, .int .i64 d])).run Tryd.prog w = .ok (.bool (a == c && b == d)) w := by
  have h : (Op.equal 71 (.agg #[.int .i64 a, .int .i64 b]) (.agg #[.int .i64 c, .int .i64 d])).run Tryd.prog w = .ok (a == c && b == d) w := by
    have hi : ∃ i, Tryd.prog.info? 3 = some i := by
      cases hx : Tryd.prog.info? 3 with
      | none => exact absurd (show (Tryd.prog.info? 3).isSome = true by kernel_rfl) (by rw [hx]; decide)
      | some i => exact ⟨i, rfl⟩
    obtain ⟨i, hi⟩ := hi
    have hc : Tryd.prog.cellsOf 3 = 1 := by kernel_rfl
    unfold Op.equal Op.maxDepth
    rw [run_equalIn_array w 9999 _ _ Tryd.underlying71 hi, hc]
    simp only [List.range, List.range.loop, Op.eqItems, Sem.run_bind, Sem.run_ite, Nat.zero_mul, Nat.one_mul, part1, part2, Result.andThen_ok, run_equalIn_int w 9998 3 .i64 .i64 _ _ Tryd.underlying3, Sem.run_pure]
    cases a == c <;> cases b == d <;> simp [Sem.run_pure, Op.eqItems, Result.andThen_ok]
  simp [binOp, h, Result.andThen]
def doneRow : List (Int × Int) → List Value
  | [] => []
  | d :: D => .int .i64 d.1 :: .int .i64 d.2 :: doneRow D
theorem doneRow_append : ∀ (D E : List (Int × Int)), doneRow (D ++ E) = doneRow D ++ doneRow E
  | [], _ => rfl
  | d :: D, E => by rw [List.cons_append, doneRow, doneRow, doneRow_append D E]; rfl
theorem doneRow_get : ∀ (D : List (Int × Int)) (j : Nat) (hj : j < D.length), (doneRow D)[j * 2]? = some (.int .i64 D[j].1) ∧ (doneRow D)[j * 2 + 1]? = some (.int .i64 D[j].2)
  | d :: D, 0, _ => ⟨rfl, rfl⟩
  | d :: D, j + 1, hj => by
    have := doneRow_get D j (by simpa using hj)
    rw [show (j + 1) * 2 = j * 2 + 1 + 1 by omega]
    exact this
theorem info2 : (Tryd.prog.info? 71).map (fun i => (i.zero, i.size, i.bytes)) = some (some (.agg #[.int .i64 0, .int .i64 0]), 2, 16) := by kernel_rfl
structure Once13 (B bs bt bm g : Nat) (size : Int) (k : Nat) (ps : List Pod) (D : List (Int × Int)) (v : Value) (w wr : World) : Prop where
  st : StoreAt ⟨bs, bt, bm, g⟩ B (fun b => B ≤ b ∧ v.ownBlock ≠ some b) wr size ps
  good : Good size k ps
  lt : g < wr.heap.size
  row : wr.ownsRow B 71 2 v D.length (doneRow D)
  off : ∀ j, v.ownBlock = some j → j ≠ bs ∧ j ≠ bt ∧ j ≠ bm ∧ j ≠ g
  done : DoneOk ps D
  len : D.length ≤ k
  below : Below B w wr
theorem Once13.hB {B bs bt bm g : Nat} {size : Int} {k : Nat} {ps : List Pod} {D : List (Int × Int)} {v : Value} {w wr : World} (h : Once13 B bs bt bm g size k ps D v w wr) : B ≤ wr.heap.size := by
  have h1 := h.st.bs; have h2 := cell_lt h.st.c0; omega
theorem Once13.keep {B bs bt bm g : Nat} {size : Int} {k : Nat} {ps : List Pod} {D : List (Int × Int)} {v : Value} {w wr wr' : World} (h : Once13 B bs bt bm g size k ps D v w wr) (hb : Below wr.heap.size wr wr') : Once13 B bs bt bm g size k ps D v w wr' :=
  ⟨h.st.below hb, h.good, Nat.lt_of_lt_of_le h.lt hb.size, ownsRow_below h.row hb, h.off, h.done, h.len, h.below.trans (hb.mono h.hB)⟩
theorem Once13.op {B bs bt bm g : Nat} {size : Int} {k : Nat} {ps : List Pod} {D : List (Int × Int)} {v : Value} {w wr w' : World} {e : Ending} {q : Pod} {R : List Pod × Int} (h : Once13 B bs bt bm g size k ps D v w wr) (hp : OpPost ⟨bs, bt, bm, g⟩ B (fun b => B ≤ b ∧ v.ownBlock ≠ some b) size R q wr e w')
    (hg : Good size (k + 1) R.1) (hd : DoneOk R.1 D) :
    ∃ a n c g', e = .returned (.tuple #[podV q (.slice a n c), errV (if R.2 = 0 then none else some (.fault R.2 0))]) ∧ Once13 B bs bt bm g' size (k + 1) R.1 D v w w' := by
  obtain ⟨g', a, cap, c', rfl, h1, h2, h3, h4, h5, h6⟩ := hp
  have hlt : ∀ j, v.ownBlock = some j → j < wr.heap.size := fun j hj => (World.ownsRow.lt h.row j hj).2
  have hgl : g' < w'.heap.size := by
    rcases h3 with h3 | ⟨_, h3⟩
    · have := h5.size; have := h.lt; change g' = g at h3; omega
    · exact h1.giLt h3
  refine ⟨a, _, cap, g', rfl, h1.imp fun b _ hb => ?_, hg, hgl, ownsRow_of_block h.row fun j hj => h5.block j (hlt j hj) ⟨(h.off j hj).1, (h.off j hj).2.2.1, (h.off j hj).2.2.2⟩, fun j hj => ?_, hd, by have := h.len; omega, h.below.trans (h5.below h.hB fun b hb => ⟨by have := h.st.bs; change B ≤ bs at this; show b ≠ bs; omega, by have := h.st.bm; change B ≤ bm at this; show b ≠ bm; omega, by have := h.st.gi; change B ≤ g at this; show b ≠ g; omega⟩)⟩
  · rcases hb.1 with hx | hx
    · exact hx.1
    · exact ⟨by have := h.hB; omega, fun e => by have := hlt b e; omega⟩
  · refine ⟨(h.off j hj).1, (h.off j hj).2.1, (h.off j hj).2.2.1, ?_⟩
    rcases h3 with h3 | ⟨h3, _⟩
    · change g' = g at h3; rw [h3]; exact (h.off j hj).2.2.2
    · have := hlt j hj; omega
theorem Once13.push {B bs bt bm g : Nat} {size : Int} {k : Nat} {ps : List Pod} {D : List (Int × Int)} {d : Int × Int} {v v' : Value} {w wr w' : World} (h : Once13 B bs bt bm g size k ps D v w wr) (hk : D.length < k) (hd : DoneOk ps (D ++ [d])) (h1 : w'.ownsRow B 71 2 v' (D.length + 1) (doneRow D ++ doneRow [d])) (h2 : wr.grownBy w' v.ownBlock) (h4 : v'.ownBlock = v.ownBlock ∨ v'.ownBlock = some wr.heap.size) :
    Once13 B bs bt bm g size k ps (D ++ [d]) v' w w' := by
  have hlt : ∀ j, v.ownBlock = some j → B ≤ j ∧ j < wr.heap.size := fun j hj => World.ownsRow.lt h.row j hj
  have hs : Stays (fun b => v.ownBlock ≠ some b) wr w' := Stays.grown h2 fun j hj hx => hx hj
  have hbt : bt < wr.heap.size := cell_lt h.st.t0
  have hbs : bs < wr.heap.size := cell_lt h.st.c0
  have hbm : bm < wr.heap.size := by obtain ⟨rvs, m1, _⟩ := h.st.map; exact m1.lt
  refine ⟨(h.st.within.stays hs (fun e => (h.off _ e).1 rfl) (fun e => (h.off _ e).2.1 rfl) (fun e => (h.off _ e).2.2.1 rfl) (fun _ e => (h.off _ e).2.2.2 rfl) (fun b _ hb => hb.1.2)).imp fun b _ hb => ⟨hb.1.1, ?_⟩, h.good, Nat.lt_of_lt_of_le h.lt h2.size, by rw [doneRow_append, List.length_append]; exact h1, fun j hj => ?_, hd, by simp; omega, h.below.trans ((Below.refl _ _).grown h2 h.hB fun j hj => (hlt j hj).1)⟩
  · rcases h4 with h4 | h4
    · rw [h4]; exact hb.1.2
    · rw [h4]; intro e; injection e with e; have := hb.2; omega
  · rcases h4 with h4 | h4
    · rw [h4] at hj; exact h.off j hj
    · rw [h4] at hj; injection hj with hj; have := h.lt; subst hj; exact ⟨by omega, by omega, by omega, by omega⟩
/-- append of one pair onto the row of what is done. -/
theorem wpList_append_done {B bs bt bm g k : Nat} {size : Int} {ps : List Pod} {D : List (Int × Int)} {d : Int × Int} {v : Value} {w0 w : World} {ops : Array Oper} {rest : List Oper} {o : Oper} {a : Act} {Q : Exit → Act → World → Prop} (hgd : o.guard = none) (s x : Operand)
    (ho : o.op = .call { callee := .builtin .append, args := #[s, x], argTypes := #[63, 63] }) (gx : Nat) (hs : a.eval s = v) (hx : a.eval x = .slice (some ⟨gx, 0, none⟩) 1 1)
    (hO : Once13 B bs bt bm g size k ps D v w0 w) (hk : D.length < k) (hk2 : k ≤ 1000) (hd : DoneOk ps (D ++ [d])) (q0 : w.cell? ⟨gx, 0, none⟩ = some (.int .i64 d.1)) (q1 : w.cell? ⟨gx, 1, none⟩ = some (.int .i64 d.2))
    (h : ∀ a' c' w', Once13 B bs bt bm g size k ps (D ++ [d]) (.slice a' (D.length + 1) c') w0 w' → wpList Tryd.prog ops Q rest (a.put o.dst (.slice a' (D.length + 1) c')) w') : wpList Tryd.prog ops Q (o :: rest) a w := by
  obtain ⟨i0, hi, hz0, hz1, hz2⟩ := info_parts info2
  refine wpList_append_own_at w hgd s x 63 ho B 71 i0 _ 2 16 Tryd.underlying63 hi hz0 hz1 hz2 rfl (by decide) v D.length (doneRow D) hs hO.row ⟨gx, 0, none⟩ 1 1 (doneRow [d]) hx rfl
    (fun j u hu => by
      rw [add_mk, Nat.zero_add]
      match j, hu with
      | 0, hu => simp [doneRow] at hu; subst hu; exact q0
      | 1, hu => simp [doneRow] at hu; subst hu; exact q1
      | j + 2, hu => simp [doneRow] at hu)
    (fun u hu => by simp [doneRow] at hu; rcases hu with rfl | rfl <;> rfl) (by unfold maxLen; omega) (by omega) hO.hB (fun v' w' h1 h2 _ h4 => ?_)
  obtain ⟨a', c', rfl⟩ := ownsRow_shape h1
  exact h a' c' w' (hO.push hk hd h1 h2 h4)
/-- A row of what is done, as the walk reads it. -/
theorem Once13.at_ {B bs bt bm g : Nat} {size : Int} {k : Nat} {ps : List Pod} {D : List (Int × Int)} {ad : Option Addr} {ld cd : Nat} {w wr : World} (h : Once13 B bs bt bm g size k ps D (.slice ad ld cd) w wr) {j : Nat} (hj : j < D.length) :
    ∃ b, ad = some ⟨b, 0, none⟩ ∧ b < wr.heap.size ∧ wr.cell? ⟨b, j * 2, none⟩ = some (.int .i64 D[j].1) ∧ wr.cell? ⟨b, j * 2 + 1, none⟩ = some (.int .i64 D[j].2) := by
  have hr := h.row
  rcases hr.2 with ⟨_, h0⟩ | ⟨b, cap, cur, hv, hb, hg, hn, hc, hs, ht⟩
  · omega
  · injection hv with hv _ _
    subst hv
    have h1 := hr.cells (g := b) rfl (j * 2) _ (doneRow_get D j hj).1
    have h2 := hr.cells (g := b) rfl (j * 2 + 1) _ (doneRow_get D j hj).2
    rw [add_mk, Nat.zero_add] at h1 h2
    exact ⟨b, rfl, (Array.getElem?_eq_some_iff.1 hg).1, h1, h2⟩
set_option maxHeartbeats 16000000 in
set_option maxRecDepth 100000 in
theorem podOnce_walk (v : Value) (ops : List Op13) (w : World) (hE : ErrType w) (hx : ops.length * 96 ≤ 140737488351232) (h : OpsAt w v ops) :
    Calls Tryd.prog 12 #[v] w fun e w' => e = .returned (.bool true) ∧ Below w.heap.size w w' := by
  obtain ⟨a, cap, rfl, hcase⟩ := h
  have hE0 := hE
  have hEB : 3 < w.heap.size := hE.lt
  have HOPS : Hid (∀ k, k < ops.length → ∃ b off, a = some ⟨b, off, none⟩ ∧ b < w.heap.size ∧ ∃ rv, OpCells w b (off + k * 12) (opAt ops k) rv ∧ IntsIn (fun b => b < w.heap.size) w rv (opAt ops k).pod.req) := fun k hk => by
    rcases hcase with rfl | ⟨b, off, rfl, hlt, hc⟩
    · simp at hk
    · obtain ⟨rv, h1, h2⟩ := hc k hk
      exact ⟨b, off, rfl, hlt, rv, h1, h2.any.within.imp fun b _ hb => hb.2⟩
  have HFEW : Hid (∀ W, Below w.heap.size w W → Calls Tryd.prog 55 #[.slice a ops.length cap] W fun e w' => e = .returned (.bool (few13P ops)) ∧ Below W.heap.size W w') := fun W hW => few13_any _ ops W hx (OpsAt.below ⟨a, cap, rfl, hcase⟩ hW)
  have HAW : Hid (∀ W, Below w.heap.size w W → Calls Tryd.prog 54 #[] W fun e w' => e = .returned (.bool true) ∧ Below W.heap.size W w') := fun W hW => awake13_any W (hE.below hW)
  have hnw := pnew_any 100 w (by omega) (by omega) w.heap.size (Nat.le_refl _)
  have hbs0 : (freshMem w.heap.size).gi = (freshMem w.heap.size).bs := rfl
  generalize freshMem w.heap.size = m0 at hnw hbs0
  obtain ⟨bs, bt, bm, gi⟩ := m0
  change gi = bs at hbs0
  subst hbs0
  have HNW := Lib.hid hnw; clear hnw
  have HE := Lib.hid hE0; clear hE0 hE
  obtain ⟨l, hl⟩ : ∃ l, l = ops.length := ⟨_, rfl⟩
  rw [← hl] at HFEW hx ⊢
  have HL := Lib.hid hl; clear hl
  clear hcase
  cases hf : few13P ops
  · rw [hf] at HFEW
    go_enter Tryd.func12, Tryd.ntmps12
    go_wp2_with fail
    refine HNW.out.mono ?_
    rintro e V ⟨rfl, hst, hB, hsz⟩
    have HB := Lib.hid hB
    clear hB hst hsz
    go_wp2_with fail
    refine (HAW.out _ HB.out).mono ?_
    rintro e V1 ⟨rfl, hb⟩
    have HB := Lib.hid (HB.out.trans (hb.mono HB.out.size)); clear hb
    go_wp2_with fail
    refine (HFEW.out _ HB.out).mono ?_
    rintro e V2 ⟨rfl, hb⟩
    have HB := Lib.hid (HB.out.trans (hb.mono HB.out.size)); clear hb
    go_wp2_with fail
    refine (HAW.out _ HB.out).mono ?_
    rintro e V3 ⟨rfl, hb⟩
    have HB := Lib.hid (HB.out.trans (hb.mono HB.out.size)); clear hb
    go_wp2
    go_ret
    exact ⟨rfl, HB.out⟩
  · have HREQ : Hid (∀ k, k < ops.length → (opAt ops k).pod.req.length ≤ 20) := fun k hk => few13_req hf hk
    have hl60 : l ≤ 60 := by rw [HL.out]; exact few13_len hf
    rw [hf] at HFEW
    clear hf
    go_enter Tryd.func12, Tryd.ntmps12
    go_wp2_with fail
    refine HNW.out.mono ?_
    rintro e V ⟨rfl, hst, hB, hsz⟩
    have HB := Lib.hid hB
    have HST := Lib.hid hst
    clear hB hst hsz HNW
    go_wp2_with fail
    refine (HAW.out _ HB.out).mono ?_
    rintro e V1 ⟨rfl, hb⟩
    have HST := Lib.hid (HST.out.below hb)
    have HB := Lib.hid (HB.out.trans (hb.mono HB.out.size)); clear hb
    go_wp2_with fail
    refine (HFEW.out _ HB.out).mono ?_
    rintro e V2 ⟨rfl, hb⟩
    have HST := Lib.hid (HST.out.below hb)
    have HB := Lib.hid (HB.out.trans (hb.mono HB.out.size)); clear hb
    have HA0 : Hid (At13 w.heap.size gi bt bm gi (max 100 0) 0 [] (.slice none 0 0) w V2) := ⟨HST.out, Good.nil (by omega), PodsX.nil _ _, cell_lt HST.out.c0, HB.out⟩
    clear HAW HFEW HST HB
    go_wp2
    have HO0 : Hid (Once13 w.heap.size gi bt bm gi (max 100 0) 0 [] [] (.slice none 0 0) w V2) := ⟨HA0.out.st.imp fun b _ hb => ⟨hb, by simp [Value.ownBlock]⟩, HA0.out.good, HA0.out.lt, ⟨rfl, .inl ⟨rfl, rfl⟩⟩, fun j hj => by simp [Value.ownBlock] at hj, fun d hd => by simp at hd, Nat.le_refl _, HA0.out.below⟩
    clear HA0
    go_loopw [4, 5] (fun v i wr => ∃ (k : Nat) (ps : List Pod) (D : List (Int × Int)) (g : Nat) (ad : Option Addr) (ld cd : Nat), k ≤ l ∧ i = .int .i64 k ∧ v = .slice ad ld cd ∧ Hid (ld = D.length) ∧ Hid (Once13 w.heap.size gi bt bm g (max 100 0) k ps D (.slice ad ld cd) w wr)) (fun _ i _ => l - (intOf i).toNat)
    case atStart => exact ⟨0, [], [], gi, none, 0, 0, Nat.zero_le _, rfl, rfl, rfl, HO0.out⟩
    case round =>
      obtain ⟨k, ps, D, g, ad, ld, cd, hk, rfl, rfl, HLD, HA⟩ := hrel
      by_cases hlt : k < l
      · obtain ⟨b, off, rfl, hbl, rv, hcc, hri⟩ := HOPS.out k (by rw [← HL.out]; exact hlt)
        have hreq := HREQ.out k (by rw [← HL.out]; exact hlt)
        generalize opAt ops k = x at *
        have hcr := hcc.below HA.out.below hbl
        have HOC := Lib.hid hcc
        have hrr : IntsIn (fun b => b < w.heap.size) wr rv x.pod.req := (hri.within.below HA.out.below (Nat.le_refl _)).imp fun b _ hb => hb.1
        obtain ⟨ar, cr, rfl, -⟩ := id hrr
        clear hcc hri
        obtain ⟨q0, ⟨q1, q2, q3, q4, q5, q6, q7, q8, q9⟩, q10, q11⟩ := hcr
        have hki : (0 : Int) ≤ (k : Int) := by omega
        have hkl : (k : Int) < (l : Int) := by omega
        have hld : ld ≤ k := by rw [HLD.out]; exact HA.out.len
        by_cases hev : x.ev = 0
        · have HS := Lib.hid ((ssub_any (m := ⟨gi, bt, bm, g⟩) 100 x.pod (.slice ar x.pod.req.length cr) wr rfl (by omega) HA.out.good.fit (by have := HA.out.good.len; omega) (by omega) HA.out.st hrr.ints (HE.out.below HA.out.below)).mono fun e w' h => HA.out.op h (HA.out.good.sub rfl hreq) (HA.out.done.sub 100 x.pod))
          obtain ⟨R, hR⟩ : ∃ R, R = subR ps 100 x.pod := ⟨_, rfl⟩
          rw [← hR] at HS
          obtain ⟨q, hq⟩ : ∃ q, q = if R.2 = 0 then newPod ps x.pod else pod0 := ⟨_, rfl⟩
          rw [← hq] at HS
          rw [hev] at q0
          clear hq hR hrr hreq
          go_wp2_with fail
          refine HS.out.mono ?_
          rintro e w2 ⟨a2, n2, c2, g2, rfl, hA2⟩
          have HA2 := Lib.hid hA2
          obtain ⟨r0, -, -, -⟩ := HOC.out.below HA2.out.below hbl
          rw [hev] at r0
          clear hA2 HS HA q0 q1 q2 q3 q4 q5 q6 q7 q8 q9 q10 q11
          by_cases hc : R.2 = 0
          · rw [if_pos hc]
            simp only [errV]
            go_wp2
            go_roundw
            case rel => exact ⟨k + 1, _, D, g2, ad, ld, cd, by omega, by go_num, rfl, HLD.out, HA2.out⟩
            case measure => simp [intOf]; omega
          · rw [errV_of hc]
            go_wp2
            go_roundw
            case rel => exact ⟨k + 1, _, D, g2, ad, ld, cd, by omega, by go_num, rfl, HLD.out, HA2.out⟩
            case measure => simp [intOf]; omega
        · have hev0 : (x.ev == 0) = false := by simp [hev]
          have hv0 : Below wr.heap.size wr wr.drew := (Below.refl _ _).drew
          have hgz : (getP ps x.pod.id).req.length ≤ 20 := by
            unfold getP
            by_cases hf : findI ps 0 x.pod.id < 0
            · rw [if_pos hf]; simp [pod0]
            · rw [if_neg hf]
              refine HA.out.good.req _ ?_
              rcases findI_bound ps 0 x.pod.id with h | h <;> omega
          have HAD := Lib.hid (HA.out.keep hv0)
          have HS := Lib.hid ((sapp_any (m := ⟨gi, bt, bm, g⟩) x.pod.id x.ev x.node x.dead wr.drew HAD.out.st (by omega)).mono fun e w' h => HAD.out.op h (HAD.out.good.app _ _ _ _) (HAD.out.done.app x.pod.id x.ev x.node x.dead))
          have HMORE : Hid ((appR ps x.pod.id x.ev x.node x.dead).2 = 0 → x.ev = 1 ∨ x.ev = 5 → (∀ d ∈ D, ¬ (d.1 = x.pod.id ∧ d.2 = x.ev)) ∧ DoneOk (appR ps x.pod.id x.ev x.node x.dead).1 (D ++ [(x.pod.id, x.ev)])) := fun h1 h2 => HA.out.done.more h1 h2
          obtain ⟨R, hR⟩ : ∃ R, R = appR ps x.pod.id x.ev x.node x.dead := ⟨_, rfl⟩
          rw [← hR] at HS HMORE
          obtain ⟨q, hq⟩ : ∃ q, q = if R.2 = 0 then turned (getP ps x.pod.id) x.ev x.node x.dead else pod0 := ⟨_, rfl⟩
          rw [← hq] at HS
          obtain ⟨er, her⟩ : ∃ er, er = errV (if R.2 = 0 then none else some (.fault R.2 0)) := ⟨_, rfl⟩
          rw [← her] at HS
          have HER := Lib.hid her
          have HLK : Hid (D.length ≤ k) := HA.out.len
          have HK : Hid (∀ w', Below w.heap.size w w' → (w'.cell? ⟨b, off + k * 12, none⟩ = some (.int .i64 x.ev) ∧ w'.cell? ⟨b, off + k * 12 + 1, none⟩ = some (.int .i64 x.pod.id) ∧ w'.cell? ⟨b, off + k * 12 + 10, none⟩ = some (.int .i64 x.node) ∧ w'.cell? ⟨b, off + k * 12 + 11, none⟩ = some (.int .i64 x.dead))) := fun w' h => by
            obtain ⟨r0, ⟨r1, -⟩, r10, r11⟩ := HOC.out.below h hbl
            exact ⟨r0, r1, r10, r11⟩
          have HK0 := Lib.hid (HK.out _ HAD.out.below)
          clear her hq hR hrr hreq hgz HAD HA q2 q3 q4 q5 q6 q7 q8 q9
          go_wp2_with fail
          refine wp_region_noPanic ?_
          refine wp_region_held_drew (S := (fun w' => w'.cell? ⟨b, off + k * 12, none⟩ = some (.int .i64 x.ev) ∧ w'.cell? ⟨b, off + k * 12 + 1, none⟩ = some (.int .i64 x.pod.id) ∧ w'.cell? ⟨b, off + k * 12 + 10, none⟩ = some (.int .i64 x.node) ∧ w'.cell? ⟨b, off + k * 12 + 11, none⟩ = some (.int .i64 x.dead))) (by kernel_rfl) ?_ (fun hHeld => ?_)
          · exact HK0.out
          refine wpAnyH_take (i := 0) (v := ?_) rfl (by kernel_rfl) (by kernel_rfl) (by kernel_rfl) (fun _ _ _ h => h) (Or.inl ⟨by rfl, ?_⟩) (by assumption) ?_
          rotate_left
          · intro w hSw
            (try dsimp only at hSw)
            go_simp
            try with_reducible rfl
          try simp only [Act.put, List.setIfInBounds_toArray, List.set_cons_zero, List.set_cons_succ, List.getElem_toArray, List.getElem_cons_zero, List.getElem_cons_succ]
          refine wpAnyH_take (i := 1) (v := ?_) rfl (by kernel_rfl) (by kernel_rfl) (by kernel_rfl) (fun _ _ _ h => h) (Or.inl ⟨by rfl, ?_⟩) (by assumption) ?_
          rotate_left
          · intro w hSw
            (try dsimp only at hSw)
            go_simp
            try with_reducible rfl
          try simp only [Act.put, List.setIfInBounds_toArray, List.set_cons_zero, List.set_cons_succ, List.getElem_toArray, List.getElem_cons_zero, List.getElem_cons_succ]
          refine wpAnyH_take (i := 2) (v := ?_) rfl (by kernel_rfl) (by kernel_rfl) (by kernel_rfl) (fun _ _ _ h => h) (Or.inl ⟨by rfl, ?_⟩) (by assumption) ?_
          rotate_left
          · intro w hSw
            (try dsimp only at hSw)
            go_simp
            try with_reducible rfl
          try simp only [Act.put, List.setIfInBounds_toArray, List.set_cons_zero, List.set_cons_succ, List.getElem_toArray, List.getElem_cons_zero, List.getElem_cons_succ]
          refine wpAnyH_take (i := 3) (v := ?_) rfl (by kernel_rfl) (by kernel_rfl) (by kernel_rfl) (fun _ _ _ h => h) (Or.inl ⟨by rfl, ?_⟩) (by assumption) ?_
          rotate_left
          · intro w hSw
            (try dsimp only at hSw)
            go_simp
            try with_reducible rfl
          try simp only [Act.put, List.setIfInBounds_toArray, List.set_cons_zero, List.set_cons_succ, List.getElem_toArray, List.getElem_cons_zero, List.getElem_cons_succ]
          refine wpAnyH_take (i := 4) (v := ?_) rfl (by kernel_rfl) (by kernel_rfl) (by kernel_rfl) (fun _ _ _ h => h) (Or.inl ⟨by rfl, ?_⟩) (by assumption) ?_
          rotate_left
          · intro w hSw
            (try dsimp only at hSw)
            go_simp
            try with_reducible rfl
          try simp only [Act.put, List.setIfInBounds_toArray, List.set_cons_zero, List.set_cons_succ, List.getElem_toArray, List.getElem_cons_zero, List.getElem_cons_succ]
          refine wpAnyH_take (i := 5) (v := ?_) rfl (by kernel_rfl) (by kernel_rfl) (by kernel_rfl) (fun _ _ _ h => h) (Or.inl ⟨by rfl, ?_⟩) (by assumption) ?_
          rotate_left
          · intro w hSw
            (try dsimp only at hSw)
            go_simp
            try with_reducible rfl
          try simp only [Act.put, List.setIfInBounds_toArray, List.set_cons_zero, List.set_cons_succ, List.getElem_toArray, List.getElem_cons_zero, List.getElem_cons_succ]
          refine wpAnyH_take (i := 6) (v := ?_) rfl (by kernel_rfl) (by kernel_rfl) (by kernel_rfl) (fun _ _ _ h => h) (Or.inl ⟨by rfl, ?_⟩) (by assumption) ?_
          rotate_left
          · intro w hSw
            (try dsimp only at hSw)
            go_simp
            try with_reducible rfl
          try simp only [Act.put, List.setIfInBounds_toArray, List.set_cons_zero, List.set_cons_succ, List.getElem_toArray, List.getElem_cons_zero, List.getElem_cons_succ]
          refine wpAnyH_take (i := 7) (v := ?_) rfl (by kernel_rfl) (by kernel_rfl) (by kernel_rfl) (fun _ _ _ h => h) (Or.inl ⟨by rfl, ?_⟩) (by assumption) ?_
          rotate_left
          · intro w hSw
            (try dsimp only at hSw)
            go_simp
            try with_reducible rfl
          try simp only [Act.put, List.setIfInBounds_toArray, List.set_cons_zero, List.set_cons_succ, List.getElem_toArray, List.getElem_cons_zero, List.getElem_cons_succ]
          refine wpAnyH_take (i := 8) (v := ?_) rfl (by kernel_rfl) (by kernel_rfl) (by kernel_rfl) (fun _ _ _ h => h) (Or.inl ⟨by rfl, ?_⟩) (by assumption) ?_
          rotate_left
          · intro w hSw
            (try dsimp only at hSw)
            go_simp
            try with_reducible rfl
          try simp only [Act.put, List.setIfInBounds_toArray, List.set_cons_zero, List.set_cons_succ, List.getElem_toArray, List.getElem_cons_zero, List.getElem_cons_succ]
          refine wpAnyH_take (i := 9) (v := ?_) rfl (by kernel_rfl) (by kernel_rfl) (by kernel_rfl) (fun _ _ _ h => h) (Or.inl ⟨by rfl, ?_⟩) (by assumption) ?_
          rotate_left
          · intro w hSw
            (try dsimp only at hSw)
            go_simp
            try with_reducible rfl
          try simp only [Act.put, List.setIfInBounds_toArray, List.set_cons_zero, List.set_cons_succ, List.getElem_toArray, List.getElem_cons_zero, List.getElem_cons_succ]
          refine wpAnyH_take (i := 10) (v := ?_) rfl (by kernel_rfl) (by kernel_rfl) (by kernel_rfl) (fun _ _ _ h => h) (Or.inl ⟨by rfl, ?_⟩) (by assumption) ?_
          rotate_left
          · intro w hSw
            (try dsimp only at hSw)
            go_simp
            try with_reducible rfl
          try simp only [Act.put, List.setIfInBounds_toArray, List.set_cons_zero, List.set_cons_succ, List.getElem_toArray, List.getElem_cons_zero, List.getElem_cons_succ]
          refine wpAnyH_take (i := 11) (v := ?_) rfl (by kernel_rfl) (by kernel_rfl) (by kernel_rfl) (fun _ _ _ h => h) (Or.inl ⟨by rfl, ?_⟩) (by assumption) ?_
          rotate_left
          · intro w hSw
            (try dsimp only at hSw)
            go_simp
            try with_reducible rfl
          try simp only [Act.put, List.setIfInBounds_toArray, List.set_cons_zero, List.set_cons_succ, List.getElem_toArray, List.getElem_cons_zero, List.getElem_cons_succ]
          refine wpAnyH_take (i := 12) (v := ?_) rfl (by kernel_rfl) (by kernel_rfl) (by kernel_rfl) (fun _ _ _ h => h) (Or.inl ⟨by rfl, ?_⟩) (by assumption) ?_
          rotate_left
          · intro w hSw
            (try dsimp only at hSw)
            go_simp
            try with_reducible rfl
          try simp only [Act.put, List.setIfInBounds_toArray, List.set_cons_zero, List.set_cons_succ, List.getElem_toArray, List.getElem_cons_zero, List.getElem_cons_succ]
          refine wpAnyH_take (i := 13) (v := ?_) rfl (by kernel_rfl) (by kernel_rfl) (by kernel_rfl) (fun _ _ _ h => h) (Or.inl ⟨by rfl, ?_⟩) (by assumption) ?_
          rotate_left
          · intro w hSw
            (try dsimp only at hSw)
            go_simp
            try with_reducible rfl
          try simp only [Act.put, List.setIfInBounds_toArray, List.set_cons_zero, List.set_cons_succ, List.getElem_toArray, List.getElem_cons_zero, List.getElem_cons_succ]
          refine wpAnyH_take (i := 14) (v := ?_) rfl (by kernel_rfl) (by kernel_rfl) (by kernel_rfl) (fun _ _ _ h => h) (Or.inl ⟨by rfl, ?_⟩) (by assumption) ?_
          rotate_left
          · intro w hSw
            (try dsimp only at hSw)
            go_simp
            try with_reducible rfl
          try simp only [Act.put, List.setIfInBounds_toArray, List.set_cons_zero, List.set_cons_succ, List.getElem_toArray, List.getElem_cons_zero, List.getElem_cons_succ]
          refine wpAnyH_take (i := 15) (v := ?_) rfl (by kernel_rfl) (by kernel_rfl) (by kernel_rfl) (fun _ _ _ h => h) (Or.inl ⟨by rfl, ?_⟩) (by assumption) ?_
          rotate_left
          · intro w hSw
            (try dsimp only at hSw)
            go_simp
            try with_reducible rfl
          try simp only [Act.put, List.setIfInBounds_toArray, List.set_cons_zero, List.set_cons_succ, List.getElem_toArray, List.getElem_cons_zero, List.getElem_cons_succ]
          refine wpAnyH_take (i := 16) (v := ?_) rfl (by kernel_rfl) (by kernel_rfl) (by kernel_rfl) (fun _ _ _ h => h) (Or.inl ⟨by rfl, ?_⟩) (by assumption) ?_
          rotate_left
          · intro w hSw
            (try dsimp only at hSw)
            go_simp
            try with_reducible rfl
          try simp only [Act.put, List.setIfInBounds_toArray, List.set_cons_zero, List.set_cons_succ, List.getElem_toArray, List.getElem_cons_zero, List.getElem_cons_succ]
          refine wpAnyH_take (i := 17) (v := ?_) rfl (by kernel_rfl) (by kernel_rfl) (by kernel_rfl) (fun _ _ _ h => h) (Or.inl ⟨by rfl, ?_⟩) (by assumption) ?_
          rotate_left
          · intro w hSw
            (try dsimp only at hSw)
            go_simp
            try with_reducible rfl
          try simp only [Act.put, List.setIfInBounds_toArray, List.set_cons_zero, List.set_cons_succ, List.getElem_toArray, List.getElem_cons_zero, List.getElem_cons_succ]
          refine wpAnyH_take (i := 18) (v := ?_) rfl (by kernel_rfl) (by kernel_rfl) (by kernel_rfl) (fun _ _ _ h => h) (Or.inl ⟨by rfl, ?_⟩) (by assumption) ?_
          rotate_left
          · intro w hSw
            (try dsimp only at hSw)
            go_simp
            try with_reducible rfl
          try simp only [Act.put, List.setIfInBounds_toArray, List.set_cons_zero, List.set_cons_succ, List.getElem_toArray, List.getElem_cons_zero, List.getElem_cons_succ]
          refine wpAnyH_take (i := 19) (v := ?_) rfl (by kernel_rfl) (by kernel_rfl) (by kernel_rfl) (fun _ _ _ h => h) (Or.inl ⟨by rfl, ?_⟩) (by assumption) ?_
          rotate_left
          · intro w hSw
            (try dsimp only at hSw)
            go_simp
            try with_reducible rfl
          try simp only [Act.put, List.setIfInBounds_toArray, List.set_cons_zero, List.set_cons_succ, List.getElem_toArray, List.getElem_cons_zero, List.getElem_cons_succ]
          refine wpAnyH_take (i := 20) (v := ?_) rfl (by kernel_rfl) (by kernel_rfl) (by kernel_rfl) (fun _ _ _ h => h) (Or.inl ⟨by rfl, ?_⟩) (by assumption) ?_
          rotate_left
          · intro w hSw
            (try dsimp only at hSw)
            go_simp
            try with_reducible rfl
          try simp only [Act.put, List.setIfInBounds_toArray, List.set_cons_zero, List.set_cons_succ, List.getElem_toArray, List.getElem_cons_zero, List.getElem_cons_succ]
          refine wpAnyH_take (i := 21) (v := ?_) rfl (by kernel_rfl) (by kernel_rfl) (by kernel_rfl) (fun _ _ _ h => h) (Or.inl ⟨by rfl, ?_⟩) (by assumption) ?_
          rotate_left
          · intro w hSw
            (try dsimp only at hSw)
            go_simp
            try with_reducible rfl
          try simp only [Act.put, List.setIfInBounds_toArray, List.set_cons_zero, List.set_cons_succ, List.getElem_toArray, List.getElem_cons_zero, List.getElem_cons_succ]
          refine wpAnyH_ready (rs := [22]) (by kernel_rfl) (by simp) ?_
          refine AllReadyH.cons rfl (fun K hK => ?_) AllReadyH.nil
          go_simp
          ((with_reducible refine HS.out.mono ?_)); rintro e w2 ⟨a2, n2, c2, g2, rfl, hA2⟩
          go_wp2_with fail
          refine hK.out _ _ (HK.out _ hA2.below) (fun hHeld => ?_)
          clear hK K
          try simp only [Act.put, List.setIfInBounds_toArray, List.set_cons_zero, List.set_cons_succ, List.getElem_toArray, List.getElem_cons_zero, List.getElem_cons_succ]
          refine wpAnyH_take (i := 23) (v := ?_) rfl (by kernel_rfl) (by kernel_rfl) (by kernel_rfl) (fun _ _ _ h => h) (Or.inl ⟨by rfl, ?_⟩) (by assumption) ?_
          rotate_left
          · intro w hSw
            (try dsimp only at hSw)
            go_simp
            try with_reducible rfl
          try simp only [Act.put, List.setIfInBounds_toArray, List.set_cons_zero, List.set_cons_succ, List.getElem_toArray, List.getElem_cons_zero, List.getElem_cons_succ]
          refine wpAnyH_take (i := 24) (v := ?_) rfl (by kernel_rfl) (by kernel_rfl) (by kernel_rfl) (fun _ _ _ h => h) (Or.inl ⟨by rfl, ?_⟩) (by assumption) ?_
          rotate_left
          · intro w hSw
            (try dsimp only at hSw)
            go_simp
            try with_reducible rfl
          try simp only [Act.put, List.setIfInBounds_toArray, List.set_cons_zero, List.set_cons_succ, List.getElem_toArray, List.getElem_cons_zero, List.getElem_cons_succ]
          refine wpAnyH_take (i := 25) (v := ?_) rfl (by kernel_rfl) (by kernel_rfl) (by kernel_rfl) (fun _ _ _ h => h) (Or.inl ⟨by rfl, ?_⟩) (by assumption) ?_
          rotate_left
          · intro w hSw
            (try dsimp only at hSw)
            go_simp
            try with_reducible rfl
          try simp only [Act.put, List.setIfInBounds_toArray, List.set_cons_zero, List.set_cons_succ, List.getElem_toArray, List.getElem_cons_zero, List.getElem_cons_succ]
          refine wpAnyH_take (i := 26) (v := ?_) rfl (by kernel_rfl) (by kernel_rfl) (by kernel_rfl) (fun _ _ _ h => h) (Or.inl ⟨by rfl, ?_⟩) (by assumption) ?_
          rotate_left
          · intro w hSw
            (try dsimp only at hSw)
            go_simp
            try with_reducible rfl
          try simp only [Act.put, List.setIfInBounds_toArray, List.set_cons_zero, List.set_cons_succ, List.getElem_toArray, List.getElem_cons_zero, List.getElem_cons_succ]
          refine wpAnyH_done (by kernel_rfl) ?_ _
          refine NoPanic.normal ?_
          have HA2 := Lib.hid hA2
          clear hA2 HK0 HS hHeld hv0 q0 q1 q10 q11
          by_cases hc : R.2 = 0
          · obtain rfl : er = .nilIface := by rw [HER.out, if_pos hc]; rfl
            obtain ⟨r0, r1, -, -⟩ := HK.out _ HA2.out.below
            by_cases h15 : x.ev = 1 ∨ x.ev = 5
            · have HM := Lib.hid (HMORE.out hc h15)
              rcases h15 with h1 | h1
              · rw [h1] at r0 HM
                have hz2 : b < w2.heap.size := cell_lt r0
                have hS0 : w2.drew.cell? ⟨b, off + k * 12, none⟩ = some (.int .i64 1) ∧ w2.drew.cell? ⟨b, off + k * 12 + 1, none⟩ = some (.int .i64 x.pod.id) := ⟨r0, r1⟩
                have hA1 : ∀ o, (w2.drew.alloc o).cell? ⟨b, off + k * 12, none⟩ = some (.int .i64 1) ∧ (w2.drew.alloc o).cell? ⟨b, off + k * 12 + 1, none⟩ = some (.int .i64 x.pod.id) := fun o => ⟨keepl ((Below.refl _ _).alloc (Nat.le_refl _) _) hS0.1, keepl ((Below.refl _ _).alloc (Nat.le_refl _) _) hS0.2⟩
                go_wp2_with fail
                refine wp_region_noPanic ?_
                refine wp_region_held_drew (S := (fun w' => w'.cell? ⟨b, off + k * 12, none⟩ = some (.int .i64 1) ∧ w'.cell? ⟨b, off + k * 12 + 1, none⟩ = some (.int .i64 x.pod.id))) (by kernel_rfl) ?_ (fun hHeld => ?_)
                · exact hS0
                refine wpAnyH_take (i := 0) (v := ?_) rfl (by kernel_rfl) (by kernel_rfl) (by kernel_rfl) (fun _ _ _ h => h) (Or.inl ⟨by rfl, ?_⟩) (by assumption) ?_
                rotate_left
                · intro w hSw
                  (try dsimp only at hSw)
                  go_simp
                  try with_reducible rfl
                try simp only [Act.put, List.setIfInBounds_toArray, List.set_cons_zero, List.set_cons_succ, List.getElem_toArray, List.getElem_cons_zero, List.getElem_cons_succ]
                refine wpAnyH_take (i := 1) (v := ?_) rfl (by kernel_rfl) (by kernel_rfl) (by kernel_rfl) (fun _ _ _ h => h) (Or.inl ⟨by rfl, ?_⟩) (by assumption) ?_
                rotate_left
                · intro w hSw
                  (try dsimp only at hSw)
                  go_simp
                  try with_reducible rfl
                try simp only [Act.put, List.setIfInBounds_toArray, List.set_cons_zero, List.set_cons_succ, List.getElem_toArray, List.getElem_cons_zero, List.getElem_cons_succ]
                refine wpAnyH_take (i := 2) (v := ?_) rfl (by kernel_rfl) (by kernel_rfl) (by kernel_rfl) (fun _ _ _ h => h) (Or.inl ⟨by rfl, ?_⟩) (by assumption) ?_
                rotate_left
                · intro w hSw
                  (try dsimp only at hSw)
                  go_simp
                  try with_reducible rfl
                try simp only [Act.put, List.setIfInBounds_toArray, List.set_cons_zero, List.set_cons_succ, List.getElem_toArray, List.getElem_cons_zero, List.getElem_cons_succ]
                refine wpAnyH_take (i := 3) (v := ?_) rfl (by kernel_rfl) (by kernel_rfl) (by kernel_rfl) (fun _ _ _ h => h) (Or.inl ⟨by rfl, ?_⟩) (by assumption) ?_
                rotate_left
                · intro w hSw
                  (try dsimp only at hSw)
                  go_simp
                  try with_reducible rfl
                try simp only [Act.put, List.setIfInBounds_toArray, List.set_cons_zero, List.set_cons_succ, List.getElem_toArray, List.getElem_cons_zero, List.getElem_cons_succ]
                refine wpAnyH_take (i := 4) (v := ?_) rfl (by kernel_rfl) (by kernel_rfl) (by kernel_rfl) (fun _ _ _ h => h) (Or.inl ⟨by rfl, ?_⟩) (by assumption) ?_
                rotate_left
                · intro w hSw
                  (try dsimp only at hSw)
                  go_simp
                  try with_reducible rfl
                try simp only [Act.put, List.setIfInBounds_toArray, List.set_cons_zero, List.set_cons_succ, List.getElem_toArray, List.getElem_cons_zero, List.getElem_cons_succ]
                refine wpAnyH_take (i := 5) (v := ?_) rfl (by kernel_rfl) (by kernel_rfl) (by kernel_rfl) (fun _ _ _ h => h) (Or.inl ⟨by rfl, ?_⟩) (by assumption) ?_
                rotate_left
                · intro w hSw
                  (try dsimp only at hSw)
                  go_simp
                  try with_reducible rfl
                try simp only [Act.put, List.setIfInBounds_toArray, List.set_cons_zero, List.set_cons_succ, List.getElem_toArray, List.getElem_cons_zero, List.getElem_cons_succ]
                refine wpAnyH_take (i := 6) (v := ?_) rfl (by kernel_rfl) (by kernel_rfl) (by kernel_rfl) (fun _ _ _ h => h) (Or.inl ⟨by rfl, ?_⟩) (by assumption) ?_
                rotate_left
                · intro w hSw
                  (try dsimp only at hSw)
                  go_simp
                  try with_reducible rfl
                try simp only [Act.put, List.setIfInBounds_toArray, List.set_cons_zero, List.set_cons_succ, List.getElem_toArray, List.getElem_cons_zero, List.getElem_cons_succ]
                refine wpAnyH_take (i := 7) (v := ?_) rfl (by kernel_rfl) (by kernel_rfl) (by kernel_rfl) (fun _ _ _ h => h) (Or.inl ⟨by rfl, ?_⟩) (by assumption) ?_
                rotate_left
                · intro w hSw
                  (try dsimp only at hSw)
                  go_simp
                  try with_reducible rfl
                try simp only [Act.put, List.setIfInBounds_toArray, List.set_cons_zero, List.set_cons_succ, List.getElem_toArray, List.getElem_cons_zero, List.getElem_cons_succ]
                refine wpAnyH_take (i := 8) (v := ?_) rfl (by kernel_rfl) (by kernel_rfl) (by kernel_rfl) (fun _ _ _ h => h) (Or.inl ⟨by rfl, ?_⟩) (by assumption) ?_
                rotate_left
                · intro w hSw
                  (try dsimp only at hSw)
                  go_simp
                  try with_reducible rfl
                try simp only [Act.put, List.setIfInBounds_toArray, List.set_cons_zero, List.set_cons_succ, List.getElem_toArray, List.getElem_cons_zero, List.getElem_cons_succ]
                refine wpAnyH_take (i := 9) (v := ?_) rfl (by kernel_rfl) (by kernel_rfl) (by kernel_rfl) (fun _ _ _ h => h) (Or.inl ⟨by rfl, ?_⟩) (by assumption) ?_
                rotate_left
                · intro w hSw
                  (try dsimp only at hSw)
                  go_simp
                  try with_reducible rfl
                try simp only [Act.put, List.setIfInBounds_toArray, List.set_cons_zero, List.set_cons_succ, List.getElem_toArray, List.getElem_cons_zero, List.getElem_cons_succ]
                refine wpAnyH_take (i := 10) (v := ?_) rfl (by kernel_rfl) (by kernel_rfl) (by kernel_rfl) (fun _ _ _ h => h) (Or.inl ⟨by rfl, ?_⟩) (by assumption) ?_
                rotate_left
                · intro w hSw
                  (try dsimp only at hSw)
                  go_simp
                  try with_reducible rfl
                try simp only [Act.put, List.setIfInBounds_toArray, List.set_cons_zero, List.set_cons_succ, List.getElem_toArray, List.getElem_cons_zero, List.getElem_cons_succ]
                refine wpAnyH_take (i := 11) (v := ?_) rfl (by kernel_rfl) (by kernel_rfl) (by kernel_rfl) (fun _ _ _ h => h) (Or.inl ⟨by rfl, ?_⟩) (by assumption) ?_
                rotate_left
                · intro w hSw
                  (try dsimp only at hSw)
                  go_simp
                  try with_reducible rfl
                try simp only [Act.put, List.setIfInBounds_toArray, List.set_cons_zero, List.set_cons_succ, List.getElem_toArray, List.getElem_cons_zero, List.getElem_cons_succ]
                refine wpAnyH_ready (rs := [12]) (by kernel_rfl) (by simp) ?_
                refine AllReadyH.cons rfl (fun K hK => ?_) AllReadyH.nil
                go_simp
                refine hK.out _ _ (hA1 _) (fun hHeld => ?_)
                clear hK K
                try simp only [Act.put, List.setIfInBounds_toArray, List.set_cons_zero, List.set_cons_succ, List.getElem_toArray, List.getElem_cons_zero, List.getElem_cons_succ]
                refine wpAnyH_ready (rs := [13]) (by kernel_rfl) (by simp) ?_
                refine AllReadyH.cons rfl (fun K hK => ?_) AllReadyH.nil
                go_simp
                refine hK.out _ _ (hA1 _) (fun hHeld => ?_)
                clear hK K
                try simp only [Act.put, List.setIfInBounds_toArray, List.set_cons_zero, List.set_cons_succ, List.getElem_toArray, List.getElem_cons_zero, List.getElem_cons_succ]
                refine wpAnyH_done (by kernel_rfl) ?_ _
                refine NoPanic.normal ?_
                have hb3 : Below w2.heap.size w2 (w2.alloc (.cells #[.int .i64 x.pod.id, .int .i64 1] 71)).drew := ((Below.refl _ _).alloc (Nat.le_refl _) _).drew
                have k0 : (w2.alloc (.cells #[.int .i64 x.pod.id, .int .i64 1] 71)).drew.cell? ⟨w2.heap.size, 0, none⟩ = some (.int .i64 x.pod.id) := by go_simp
                have k1 : (w2.alloc (.cells #[.int .i64 x.pod.id, .int .i64 1] 71)).drew.cell? ⟨w2.heap.size, 1, none⟩ = some (.int .i64 1) := by go_simp
                have HA3 := Lib.hid (HA2.out.keep hb3)
                clear hHeld hS0 hA1 hb3 HA2 HK HOC
                generalize (w2.alloc (.cells #[.int .i64 x.pod.id, .int .i64 1] 71)).drew = w3 at *
                generalize w2.heap.size = kb at *
                clear r0 r1 hz2
                go_wp2
                go_loopw [8] (fun i wr2 => ∃ j : Nat, j ≤ ld ∧ i = .int .i64 j ∧ Aside (Below w3.heap.size w3 wr2)) (fun i _ => ld - (intOf i).toNat)
                case atStart => exact ⟨0, by omega, rfl, Below.refl _ _⟩
                case round =>
                  obtain ⟨j, hj, rfl, hbw⟩ := hrel
                  by_cases hjl : j < ld
                  · obtain ⟨bd, had, hbd, d0, d1⟩ := HA3.out.at_ (j := j) (by rw [← HLD.out]; exact hjl)
                    subst had
                    have hne := HM.out.1 _ (List.getElem_mem (show j < D.length by rw [← HLD.out]; exact hjl))
                    have d0 := keepl hbw.out d0
                    have d1 := keepl hbw.out d1
                    have k0 := keepl hbw.out k0
                    have k1 := keepl hbw.out k1
                    generalize D[j].1 = y0 at *
                    generalize D[j].2 = y1 at *
                    have hsame : (y0 == x.pod.id && y1 == 1) = false := by
                      cases hh : (y0 == x.pod.id && y1 == 1)
                      · rfl
                      · exfalso; simp at hh; exact hne hh
                    have heq : ∀ w, (binOp .eql 71 (.agg #[.int .i64 y0, .int .i64 y1]) (.agg #[.int .i64 x.pod.id, .int .i64 1])).run Tryd.prog w = .ok (.bool false) w := fun w => by rw [eqlI2, hsame]
                    have e0 : (0 : Int) ≤ (j : Int) := by omega
                    have e1 : (j : Int) < (ld : Int) := by omega
                    have hS0 : wr.drew.cell? ⟨bd, j * 2, none⟩ = some (.int .i64 y0) ∧ wr.drew.cell? ⟨bd, j * 2 + 1, none⟩ = some (.int .i64 y1) ∧ wr.drew.cell? ⟨kb, 0, none⟩ = some (.int .i64 x.pod.id) ∧ wr.drew.cell? ⟨kb, 1, none⟩ = some (.int .i64 1) := ⟨d0, d1, k0, k1⟩
                    clear hne hsame d0 d1 k0 k1
                    go_wp2_with fail
                    refine wp_region_noPanic ?_
                    refine wp_region_held_drew (S := (fun w' => w'.cell? ⟨bd, j * 2, none⟩ = some (.int .i64 y0) ∧ w'.cell? ⟨bd, j * 2 + 1, none⟩ = some (.int .i64 y1) ∧ w'.cell? ⟨kb, 0, none⟩ = some (.int .i64 x.pod.id) ∧ w'.cell? ⟨kb, 1, none⟩ = some (.int .i64 1))) (by kernel_rfl) ?_ (fun hHeld => ?_)
                    · exact hS0
                    refine wpAnyH_take (i := 0) (v := ?_) rfl (by kernel_rfl) (by kernel_rfl) (by kernel_rfl) (fun _ _ _ h => h) (Or.inl ⟨by rfl, ?_⟩) (by assumption) ?_
                    rotate_left
                    · intro w hSw
                      (try dsimp only at hSw)
                      go_simp
                      try with_reducible rfl
                    try simp only [Act.put, List.setIfInBounds_toArray, List.set_cons_zero, List.set_cons_succ, List.getElem_toArray, List.getElem_cons_zero, List.getElem_cons_succ]
                    refine wpAnyH_take (i := 1) (v := ?_) rfl (by kernel_rfl) (by kernel_rfl) (by kernel_rfl) (fun _ _ _ h => h) (Or.inl ⟨by rfl, ?_⟩) (by assumption) ?_
                    rotate_left
                    · intro w hSw
                      (try dsimp only at hSw)
                      go_simp
                      try with_reducible rfl
                    try simp only [Act.put, List.setIfInBounds_toArray, List.set_cons_zero, List.set_cons_succ, List.getElem_toArray, List.getElem_cons_zero, List.getElem_cons_succ]
                    refine wpAnyH_take (i := 2) (v := ?_) rfl (by kernel_rfl) (by kernel_rfl) (by kernel_rfl) (fun _ _ _ h => h) (Or.inl ⟨by rfl, ?_⟩) (by assumption) ?_
                    rotate_left
                    · intro w hSw
                      (try dsimp only at hSw)
                      go_simp
                      try with_reducible rfl
                    try simp only [Act.put, List.setIfInBounds_toArray, List.set_cons_zero, List.set_cons_succ, List.getElem_toArray, List.getElem_cons_zero, List.getElem_cons_succ]
                    refine wpAnyH_take (i := 3) (v := ?_) rfl (by kernel_rfl) (by kernel_rfl) (by kernel_rfl) (fun _ _ _ h => h) (Or.inl ⟨by rfl, ?_⟩) (by assumption) ?_
                    rotate_left
                    · intro w hSw
                      (try dsimp only at hSw)
                      go_simp
                      try with_reducible rfl
                    try simp only [Act.put, List.setIfInBounds_toArray, List.set_cons_zero, List.set_cons_succ, List.getElem_toArray, List.getElem_cons_zero, List.getElem_cons_succ]
                    refine wpAnyH_take (i := 4) (v := ?_) rfl (by kernel_rfl) (by kernel_rfl) (by kernel_rfl) (fun _ _ _ h => h) (Or.inl ⟨by rfl, ?_⟩) (by assumption) ?_
                    rotate_left
                    · intro w hSw
                      (try dsimp only at hSw)
                      go_simp
                      try with_reducible rfl
                    try simp only [Act.put, List.setIfInBounds_toArray, List.set_cons_zero, List.set_cons_succ, List.getElem_toArray, List.getElem_cons_zero, List.getElem_cons_succ]
                    refine wpAnyH_take (i := 5) (v := ?_) rfl (by kernel_rfl) (by kernel_rfl) (by kernel_rfl) (fun _ _ _ h => h) (Or.inl ⟨by rfl, ?_⟩) (by assumption) ?_
                    rotate_left
                    · intro w hSw
                      (try dsimp only at hSw)
                      go_simp
                      try with_reducible rfl
                    try simp only [Act.put, List.setIfInBounds_toArray, List.set_cons_zero, List.set_cons_succ, List.getElem_toArray, List.getElem_cons_zero, List.getElem_cons_succ]
                    refine wpAnyH_done (by kernel_rfl) ?_ _
                    refine NoPanic.normal ?_
                    clear hS0 hHeld
                    go_wp2
                    go_roundw
                    case rel => exact ⟨j + 1, by omega, by go_num, hbw.out.drew⟩
                    case measure => simp [intOf]; omega
                  · have k0 := keepl hbw.out k0
                    have k1 := keepl hbw.out k1
                    have HA4 := Lib.hid ((HA3.out.keep hbw.out).keep (((Below.refl _ _).alloc (Nat.le_refl _) (.cells #[.int .i64 x.pod.id, .int .i64 1] 71))))
                    clear hbw HA3
                    go_wp2_with (at_builtin; refine wpList_append_done (d := (x.pod.id, 1)) rfl _ _ rfl wr.heap.size rfl rfl HA4.out (by have := HLK.out; omega) (by omega) HM.out.2 (by go_simp) (by go_simp) ?_; intro a6 c6 w6 hA6; have HA6 := Lib.hid hA6; clear hA6)
                    go_roundw
                    case rel => exact ⟨k + 1, _, D ++ [(x.pod.id, 1)], g2, a6, D.length + 1, c6, by omega, by go_num, rfl, by simp [Hid], HA6.out⟩
                    case measure => simp [intOf]; omega
              · rw [h1] at r0 HM
                have hz2 : b < w2.heap.size := cell_lt r0
                have hS0 : w2.drew.cell? ⟨b, off + k * 12, none⟩ = some (.int .i64 5) ∧ w2.drew.cell? ⟨b, off + k * 12 + 1, none⟩ = some (.int .i64 x.pod.id) := ⟨r0, r1⟩
                have hA1 : ∀ o, (w2.drew.alloc o).cell? ⟨b, off + k * 12, none⟩ = some (.int .i64 5) ∧ (w2.drew.alloc o).cell? ⟨b, off + k * 12 + 1, none⟩ = some (.int .i64 x.pod.id) := fun o => ⟨keepl ((Below.refl _ _).alloc (Nat.le_refl _) _) hS0.1, keepl ((Below.refl _ _).alloc (Nat.le_refl _) _) hS0.2⟩
                go_wp2_with fail
                refine wp_region_noPanic ?_
                refine wp_region_held_drew (S := (fun w' => w'.cell? ⟨b, off + k * 12, none⟩ = some (.int .i64 5) ∧ w'.cell? ⟨b, off + k * 12 + 1, none⟩ = some (.int .i64 x.pod.id))) (by kernel_rfl) ?_ (fun hHeld => ?_)
                · exact hS0
                refine wpAnyH_take (i := 0) (v := ?_) rfl (by kernel_rfl) (by kernel_rfl) (by kernel_rfl) (fun _ _ _ h => h) (Or.inl ⟨by rfl, ?_⟩) (by assumption) ?_
                rotate_left
                · intro w hSw
                  (try dsimp only at hSw)
                  go_simp
                  try with_reducible rfl
                try simp only [Act.put, List.setIfInBounds_toArray, List.set_cons_zero, List.set_cons_succ, List.getElem_toArray, List.getElem_cons_zero, List.getElem_cons_succ]
                refine wpAnyH_take (i := 1) (v := ?_) rfl (by kernel_rfl) (by kernel_rfl) (by kernel_rfl) (fun _ _ _ h => h) (Or.inl ⟨by rfl, ?_⟩) (by assumption) ?_
                rotate_left
                · intro w hSw
                  (try dsimp only at hSw)
                  go_simp
                  try with_reducible rfl
                try simp only [Act.put, List.setIfInBounds_toArray, List.set_cons_zero, List.set_cons_succ, List.getElem_toArray, List.getElem_cons_zero, List.getElem_cons_succ]
                refine wpAnyH_take (i := 2) (v := ?_) rfl (by kernel_rfl) (by kernel_rfl) (by kernel_rfl) (fun _ _ _ h => h) (Or.inl ⟨by rfl, ?_⟩) (by assumption) ?_
                rotate_left
                · intro w hSw
                  (try dsimp only at hSw)
                  go_simp
                  try with_reducible rfl
                try simp only [Act.put, List.setIfInBounds_toArray, List.set_cons_zero, List.set_cons_succ, List.getElem_toArray, List.getElem_cons_zero, List.getElem_cons_succ]
                refine wpAnyH_take (i := 3) (v := ?_) rfl (by kernel_rfl) (by kernel_rfl) (by kernel_rfl) (fun _ _ _ h => h) (Or.inl ⟨by rfl, ?_⟩) (by assumption) ?_
                rotate_left
                · intro w hSw
                  (try dsimp only at hSw)
                  go_simp
                  try with_reducible rfl
                try simp only [Act.put, List.setIfInBounds_toArray, List.set_cons_zero, List.set_cons_succ, List.getElem_toArray, List.getElem_cons_zero, List.getElem_cons_succ]
                refine wpAnyH_take (i := 4) (v := ?_) rfl (by kernel_rfl) (by kernel_rfl) (by kernel_rfl) (fun _ _ _ h => h) (Or.inl ⟨by rfl, ?_⟩) (by assumption) ?_
                rotate_left
                · intro w hSw
                  (try dsimp only at hSw)
                  go_simp
                  try with_reducible rfl
                try simp only [Act.put, List.setIfInBounds_toArray, List.set_cons_zero, List.set_cons_succ, List.getElem_toArray, List.getElem_cons_zero, List.getElem_cons_succ]
                refine wpAnyH_take (i := 5) (v := ?_) rfl (by kernel_rfl) (by kernel_rfl) (by kernel_rfl) (fun _ _ _ h => h) (Or.inl ⟨by rfl, ?_⟩) (by assumption) ?_
                rotate_left
                · intro w hSw
                  (try dsimp only at hSw)
                  go_simp
                  try with_reducible rfl
                try simp only [Act.put, List.setIfInBounds_toArray, List.set_cons_zero, List.set_cons_succ, List.getElem_toArray, List.getElem_cons_zero, List.getElem_cons_succ]
                refine wpAnyH_take (i := 6) (v := ?_) rfl (by kernel_rfl) (by kernel_rfl) (by kernel_rfl) (fun _ _ _ h => h) (Or.inl ⟨by rfl, ?_⟩) (by assumption) ?_
                rotate_left
                · intro w hSw
                  (try dsimp only at hSw)
                  go_simp
                  try with_reducible rfl
                try simp only [Act.put, List.setIfInBounds_toArray, List.set_cons_zero, List.set_cons_succ, List.getElem_toArray, List.getElem_cons_zero, List.getElem_cons_succ]
                refine wpAnyH_take (i := 7) (v := ?_) rfl (by kernel_rfl) (by kernel_rfl) (by kernel_rfl) (fun _ _ _ h => h) (Or.inl ⟨by rfl, ?_⟩) (by assumption) ?_
                rotate_left
                · intro w hSw
                  (try dsimp only at hSw)
                  go_simp
                  try with_reducible rfl
                try simp only [Act.put, List.setIfInBounds_toArray, List.set_cons_zero, List.set_cons_succ, List.getElem_toArray, List.getElem_cons_zero, List.getElem_cons_succ]
                refine wpAnyH_take (i := 8) (v := ?_) rfl (by kernel_rfl) (by kernel_rfl) (by kernel_rfl) (fun _ _ _ h => h) (Or.inl ⟨by rfl, ?_⟩) (by assumption) ?_
                rotate_left
                · intro w hSw
                  (try dsimp only at hSw)
                  go_simp
                  try with_reducible rfl
                try simp only [Act.put, List.setIfInBounds_toArray, List.set_cons_zero, List.set_cons_succ, List.getElem_toArray, List.getElem_cons_zero, List.getElem_cons_succ]
                refine wpAnyH_take (i := 9) (v := ?_) rfl (by kernel_rfl) (by kernel_rfl) (by kernel_rfl) (fun _ _ _ h => h) (Or.inl ⟨by rfl, ?_⟩) (by assumption) ?_
                rotate_left
                · intro w hSw
                  (try dsimp only at hSw)
                  go_simp
                  try with_reducible rfl
                try simp only [Act.put, List.setIfInBounds_toArray, List.set_cons_zero, List.set_cons_succ, List.getElem_toArray, List.getElem_cons_zero, List.getElem_cons_succ]
                refine wpAnyH_take (i := 10) (v := ?_) rfl (by kernel_rfl) (by kernel_rfl) (by kernel_rfl) (fun _ _ _ h => h) (Or.inl ⟨by rfl, ?_⟩) (by assumption) ?_
                rotate_left
                · intro w hSw
                  (try dsimp only at hSw)
                  go_simp
                  try with_reducible rfl
                try simp only [Act.put, List.setIfInBounds_toArray, List.set_cons_zero, List.set_cons_succ, List.getElem_toArray, List.getElem_cons_zero, List.getElem_cons_succ]
                refine wpAnyH_take (i := 11) (v := ?_) rfl (by kernel_rfl) (by kernel_rfl) (by kernel_rfl) (fun _ _ _ h => h) (Or.inl ⟨by rfl, ?_⟩) (by assumption) ?_
                rotate_left
                · intro w hSw
                  (try dsimp only at hSw)
                  go_simp
                  try with_reducible rfl
                try simp only [Act.put, List.setIfInBounds_toArray, List.set_cons_zero, List.set_cons_succ, List.getElem_toArray, List.getElem_cons_zero, List.getElem_cons_succ]
                refine wpAnyH_ready (rs := [12]) (by kernel_rfl) (by simp) ?_
                refine AllReadyH.cons rfl (fun K hK => ?_) AllReadyH.nil
                go_simp
                refine hK.out _ _ (hA1 _) (fun hHeld => ?_)
                clear hK K
                try simp only [Act.put, List.setIfInBounds_toArray, List.set_cons_zero, List.set_cons_succ, List.getElem_toArray, List.getElem_cons_zero, List.getElem_cons_succ]
                refine wpAnyH_ready (rs := [13]) (by kernel_rfl) (by simp) ?_
                refine AllReadyH.cons rfl (fun K hK => ?_) AllReadyH.nil
                go_simp
                refine hK.out _ _ (hA1 _) (fun hHeld => ?_)
                clear hK K
                try simp only [Act.put, List.setIfInBounds_toArray, List.set_cons_zero, List.set_cons_succ, List.getElem_toArray, List.getElem_cons_zero, List.getElem_cons_succ]
                refine wpAnyH_done (by kernel_rfl) ?_ _
                refine NoPanic.normal ?_
                have hb3 : Below w2.heap.size w2 (w2.alloc (.cells #[.int .i64 x.pod.id, .int .i64 5] 71)).drew := ((Below.refl _ _).alloc (Nat.le_refl _) _).drew
                have k0 : (w2.alloc (.cells #[.int .i64 x.pod.id, .int .i64 5] 71)).drew.cell? ⟨w2.heap.size, 0, none⟩ = some (.int .i64 x.pod.id) := by go_simp
                have k1 : (w2.alloc (.cells #[.int .i64 x.pod.id, .int .i64 5] 71)).drew.cell? ⟨w2.heap.size, 1, none⟩ = some (.int .i64 5) := by go_simp
                have HA3 := Lib.hid (HA2.out.keep hb3)
                clear hHeld hS0 hA1 hb3 HA2 HK HOC
                generalize (w2.alloc (.cells #[.int .i64 x.pod.id, .int .i64 5] 71)).drew = w3 at *
                generalize w2.heap.size = kb at *
                clear r0 r1 hz2
                go_wp2
                go_loopw [8] (fun i wr2 => ∃ j : Nat, j ≤ ld ∧ i = .int .i64 j ∧ Aside (Below w3.heap.size w3 wr2)) (fun i _ => ld - (intOf i).toNat)
                case atStart => exact ⟨0, by omega, rfl, Below.refl _ _⟩
                case round =>
                  obtain ⟨j, hj, rfl, hbw⟩ := hrel
                  by_cases hjl : j < ld
                  · obtain ⟨bd, had, hbd, d0, d1⟩ := HA3.out.at_ (j := j) (by rw [← HLD.out]; exact hjl)
                    subst had
                    have hne := HM.out.1 _ (List.getElem_mem (show j < D.length by rw [← HLD.out]; exact hjl))
                    have d0 := keepl hbw.out d0
                    have d1 := keepl hbw.out d1
                    have k0 := keepl hbw.out k0
                    have k1 := keepl hbw.out k1
                    generalize D[j].1 = y0 at *
                    generalize D[j].2 = y1 at *
                    have hsame : (y0 == x.pod.id && y1 == 5) = false := by
                      cases hh : (y0 == x.pod.id && y1 == 5)
                      · rfl
                      · exfalso; simp at hh; exact hne hh
                    have heq : ∀ w, (binOp .eql 71 (.agg #[.int .i64 y0, .int .i64 y1]) (.agg #[.int .i64 x.pod.id, .int .i64 5])).run Tryd.prog w = .ok (.bool false) w := fun w => by rw [eqlI2, hsame]
                    have e0 : (0 : Int) ≤ (j : Int) := by omega
                    have e1 : (j : Int) < (ld : Int) := by omega
                    have hS0 : wr.drew.cell? ⟨bd, j * 2, none⟩ = some (.int .i64 y0) ∧ wr.drew.cell? ⟨bd, j * 2 + 1, none⟩ = some (.int .i64 y1) ∧ wr.drew.cell? ⟨kb, 0, none⟩ = some (.int .i64 x.pod.id) ∧ wr.drew.cell? ⟨kb, 1, none⟩ = some (.int .i64 5) := ⟨d0, d1, k0, k1⟩
                    clear hne hsame d0 d1 k0 k1
                    go_wp2_with fail
                    refine wp_region_noPanic ?_
                    refine wp_region_held_drew (S := (fun w' => w'.cell? ⟨bd, j * 2, none⟩ = some (.int .i64 y0) ∧ w'.cell? ⟨bd, j * 2 + 1, none⟩ = some (.int .i64 y1) ∧ w'.cell? ⟨kb, 0, none⟩ = some (.int .i64 x.pod.id) ∧ w'.cell? ⟨kb, 1, none⟩ = some (.int .i64 5))) (by kernel_rfl) ?_ (fun hHeld => ?_)
                    · exact hS0
                    refine wpAnyH_take (i := 0) (v := ?_) rfl (by kernel_rfl) (by kernel_rfl) (by kernel_rfl) (fun _ _ _ h => h) (Or.inl ⟨by rfl, ?_⟩) (by assumption) ?_
                    rotate_left
                    · intro w hSw
                      (try dsimp only at hSw)
                      go_simp
                      try with_reducible rfl
                    try simp only [Act.put, List.setIfInBounds_toArray, List.set_cons_zero, List.set_cons_succ, List.getElem_toArray, List.getElem_cons_zero, List.getElem_cons_succ]
                    refine wpAnyH_take (i := 1) (v := ?_) rfl (by kernel_rfl) (by kernel_rfl) (by kernel_rfl) (fun _ _ _ h => h) (Or.inl ⟨by rfl, ?_⟩) (by assumption) ?_
                    rotate_left
                    · intro w hSw
                      (try dsimp only at hSw)
                      go_simp
                      try with_reducible rfl
                    try simp only [Act.put, List.setIfInBounds_toArray, List.set_cons_zero, List.set_cons_succ, List.getElem_toArray, List.getElem_cons_zero, List.getElem_cons_succ]
                    refine wpAnyH_take (i := 2) (v := ?_) rfl (by kernel_rfl) (by kernel_rfl) (by kernel_rfl) (fun _ _ _ h => h) (Or.inl ⟨by rfl, ?_⟩) (by assumption) ?_
                    rotate_left
                    · intro w hSw
                      (try dsimp only at hSw)
                      go_simp
                      try with_reducible rfl
                    try simp only [Act.put, List.setIfInBounds_toArray, List.set_cons_zero, List.set_cons_succ, List.getElem_toArray, List.getElem_cons_zero, List.getElem_cons_succ]
                    refine wpAnyH_take (i := 3) (v := ?_) rfl (by kernel_rfl) (by kernel_rfl) (by kernel_rfl) (fun _ _ _ h => h) (Or.inl ⟨by rfl, ?_⟩) (by assumption) ?_
                    rotate_left
                    · intro w hSw
                      (try dsimp only at hSw)
                      go_simp
                      try with_reducible rfl
                    try simp only [Act.put, List.setIfInBounds_toArray, List.set_cons_zero, List.set_cons_succ, List.getElem_toArray, List.getElem_cons_zero, List.getElem_cons_succ]
                    refine wpAnyH_take (i := 4) (v := ?_) rfl (by kernel_rfl) (by kernel_rfl) (by kernel_rfl) (fun _ _ _ h => h) (Or.inl ⟨by rfl, ?_⟩) (by assumption) ?_
                    rotate_left
                    · intro w hSw
                      (try dsimp only at hSw)
                      go_simp
                      try with_reducible rfl
                    try simp only [Act.put, List.setIfInBounds_toArray, List.set_cons_zero, List.set_cons_succ, List.getElem_toArray, List.getElem_cons_zero, List.getElem_cons_succ]
                    refine wpAnyH_take (i := 5) (v := ?_) rfl (by kernel_rfl) (by kernel_rfl) (by kernel_rfl) (fun _ _ _ h => h) (Or.inl ⟨by rfl, ?_⟩) (by assumption) ?_
                    rotate_left
                    · intro w hSw
                      (try dsimp only at hSw)
                      go_simp
                      try with_reducible rfl
                    try simp only [Act.put, List.setIfInBounds_toArray, List.set_cons_zero, List.set_cons_succ, List.getElem_toArray, List.getElem_cons_zero, List.getElem_cons_succ]
                    refine wpAnyH_done (by kernel_rfl) ?_ _
                    refine NoPanic.normal ?_
                    clear hS0 hHeld
                    go_wp2
                    go_roundw
                    case rel => exact ⟨j + 1, by omega, by go_num, hbw.out.drew⟩
                    case measure => simp [intOf]; omega
                  · have k0 := keepl hbw.out k0
                    have k1 := keepl hbw.out k1
                    have HA4 := Lib.hid ((HA3.out.keep hbw.out).keep (((Below.refl _ _).alloc (Nat.le_refl _) (.cells #[.int .i64 x.pod.id, .int .i64 5] 71))))
                    clear hbw HA3
                    go_wp2_with (at_builtin; refine wpList_append_done (d := (x.pod.id, 5)) rfl _ _ rfl wr.heap.size rfl rfl HA4.out (by have := HLK.out; omega) (by omega) HM.out.2 (by go_simp) (by go_simp) ?_; intro a6 c6 w6 hA6; have HA6 := Lib.hid hA6; clear hA6)
                    go_roundw
                    case rel => exact ⟨k + 1, _, D ++ [(x.pod.id, 5)], g2, a6, D.length + 1, c6, by omega, by go_num, rfl, by simp [Hid], HA6.out⟩
                    case measure => simp [intOf]; omega
            · have e1 : (x.ev == 1) = false := by simp; omega
              have e2 : (x.ev != 1) = true := by simp; omega
              have e3 : (x.ev == 5) = false := by simp; omega
              have e4 : (x.ev != 5) = true := by simp; omega
              clear h15
              go_wp2
              go_roundw
              case rel => exact ⟨k + 1, _, D, g2, ad, ld, cd, by omega, by go_num, rfl, HLD.out, HA2.out⟩
              case measure => simp [intOf]; omega
          · obtain rfl : er = .iface 106 (.agg #[.int .i64 R.2, .int .i64 0]) := by rw [HER.out]; exact errV_of hc
            go_wp2
            go_roundw
            case rel => exact ⟨k + 1, _, D, g2, ad, ld, cd, by omega, by go_num, rfl, HLD.out, HA2.out⟩
            case measure => simp [intOf]; omega
      · have HB := Lib.hid HA.out.below
        clear HA
        go_wp2
        go_ret
        exact ⟨rfl, HB.out⟩
end Go.Proofs.YtcegipkhmibdeaaDoor
/- PodOnce: for every input the law returns true and its arguments read behind the call as before: the row over whatever heap in which the listed variables hold their data, and the tied card. -/
namespace Go.Proofs.YtcegipkhmibdeaaDoor.podOnce
set_option linter.all false
open Go.ChangeShapes Go.WideShapes Go.ChangeAt Go.WideMaps Go.WideElems Go.RowKit
open Go.ChangeMaps (open_string shut_string)
open Go.ChangeAt
set_option linter.unusedVariables false
theorem door_met (os : Os) (args : Array Value) : laidMetH Tryd.prog Rows.podOnceRow.laid ((World.doorLaid Tryd.prog 46 os).forCall (fun _ _ => 0) ⟨#[], args, []⟩).memory :=
  laidMetH_of_parts3 (fuel := 8) (laidMet_of_run' 8 (by kernel_rfl) (by kernel_rfl)) (by kernel_rfl) (by kernel_rfl)
set_option maxRecDepth 100000 in
theorem lifted (os : Os) (started : os.Started) (H : Type) (enc : TypeId × Value → H) :
    ReturnsInHanded {} Tryd.checked os 12 .any (fun w args => (Rows.podOnceSpec.pre enc Tryd.prog Tryd.f12 Rows.podOnceRow.domain false w args ∧ laidMetH Tryd.prog Rows.podOnceRow.laid w) ∧ sizedMet enc Tryd.prog Tryd.f12 (OpenSpec.ofChange Rows.podOnceSpec) false w args)
      (Rows.podOnceSpec.post enc Tryd.prog Tryd.f12 false true false false) := by
  refine returnsInHanded_of_change_and (C := Tryd.checked) (X := fun w _ => laidMetH Tryd.prog Rows.podOnceRow.laid w) (fun _ _ _ hh h => h.of_heap hh) own started (by kernel_rfl) Tryd.func12
    (ChangeSpec.witness_shaped (enc := enc) (C := Tryd.checked) (os := os) (X := fun w _ => laidMetH Tryd.prog Rows.podOnceRow.laid w) false (World.doorLaid Tryd.prog 46 os) #[.slice none 0 0] 8 rfl (World.shaped_of_RefB (by kernel_rfl) (by kernel_rfl)) (by kernel_rfl) (by kernel_rfl) (by kernel_rfl) (door_met os _)) ?_
  intro W base args ds gs before hval0 hW hcnd hsz0 hL _
  have hsz : (DataW.weightsEach Tryd.prog (Tryd.f12.params.toList ++ Rows.podOnceSpec.plain.varTypes Tryd.prog) (ds ++ gs)).all (· ≤ reachBytes) = true := hsz0
  have hval : ∀ (j : Nat) t v, Tryd.f12.params[j]? = some t → args[j]? = some v → Value.okWide Tryd.prog W .any base t v := hval0
  have hW' := hW
  obtain ⟨p, q, hA0, hV, rfl, hfz, hnd⟩ := hW
  have hA : DataW.TrodAll enc Tryd.prog W 0 (fun _ => true) true Tryd.f12.params.toList args.toList ds p := hA0
  rw [Tryd.params12] at hA hval hsz
  obtain ⟨v0, vs0, d0, ds0, p0, q0, hargs, rfl, rfl, h0, r0⟩ := trodAll_cons hA
  obtain ⟨rfl, rfl, rfl⟩ := trodAll_nil r0
  obtain rfl : args = #[v0] := by cases args; simp_all
  obtain ⟨rfl, rfl⟩ := trodVars_none hV
  obtain ⟨a0, len0, cap0, rfl⟩ := okWide_slice Tryd.underlying59 (hval 0 59 v0 rfl rfl)
  have k0 := h0
  have lt0 : ∀ x ∈ p0, x.block < W.heap.size := by obtain ⟨m, hm⟩ := k0; exact DataW.trod_lt m _ _ _ hm
  have y0 := sized_any hsz (j := 0) (t := 59) rfl rfl Tryd.underlying59 bytesOp13 h0
  obtain ⟨z0, l0, h0⟩ : ∃ xs, xs.length = len0 ∧ OpsAt W (.slice a0 len0 cap0) xs := by obtain ⟨m, hm⟩ := h0; exact ops13_of hm
  have hE : ErrType W := by
    have h0 : laidMet Tryd.prog [] W ∧ handlesMet Tryd.prog Rows.opPlainRow.laid W := hL
    exact errType_of_handles h0.2 (List.mem_singleton.2 rfl)
  clear hA0 hval0 hsz0 hsz
  refine (podOnce_walk _ z0 W hE (by rw [l0]; omega) h0).mono fun e W' ⟨he, bel⟩ => ?_
  subst he
  exact ⟨_, rfl, _, _, _, [], _, [], hW', trodAll_mk1 (shut_bool Tryd.underlying4 _), (trodAll_cons_mk (Below.trod laidOut (by kernel_rfl) (of_decide_eq_true (by kernel_rfl)) k0 bel lt0) trodAll_mk0), rfl, bel.frame _, fun h => by cases h⟩
theorem named : Tryd.prog.funcNamed "hammock/hammocklaw13.PodOnce" = some 12 := by kernel_rfl
set_option maxRecDepth 100000 in
set_option maxHeartbeats 40000000 in
theorem facts : joinedFacts Tryd.prog 12 Tryd.f12 Rows.podOnceSpec Rows.podOnceRow = true := by
  unfold joinedFacts
  rw [fLaidOut, fMapsRowed, fStops, fStopKnobs, fPlainKeys, fStopsHeard, fMay, fLifts, fMake]
  repeat' (with_reducible refine band ?_ ?_)
  all_goals (as_aux_lemma => kernel_rfl)
theorem instance_ : Tryd.f12.isInstance Tryd.prog Rows.podOnceRow.origin Rows.podOnceRow.targs := of_decide_eq_true (by kernel_rfl)
theorem wrapper_ : Tryd.f12.isWrapper Tryd.prog Rows.podOnceRow.wrapper Rows.podOnceRow.mainSum := by
  unfold Func.isWrapper; first | (rw [if_pos (by decide +kernel)]; kernel_rfl) | (rw [if_neg (by decide +kernel)]; exact ⟨rfl, rfl⟩)
theorem over : Rows.PodOnceSaid :=
  OpenClaim.holds_of_wide 12 Tryd.f12 rfl rfl rfl rfl rfl rfl rfl ⟨rfl, rfl, rfl, rfl, rfl⟩ rfl rfl rfl rfl rfl named Tryd.func12 facts
    instance_ wrapper_ (fun os started H enc _ => lifted os started H enc)
theorem byText : Rows.podOnceRow.wfByText (OpenSpec.ofChange Rows.podOnceSpec) = true := by kernel_rfl
theorem looks_ : true = Tryd.prog.looks [] := by kernel_rfl
theorem goes_ : false = Rows.podOnceRow.goesBy Tryd.prog := by kernel_rfl
theorem params_ : ([59].all fun u => !Tryd.prog.wantsStandIn u) = true := by kernel_rfl
theorem proved : Rows.PodOnceCardSaid :=
  Claim7.holds_tied_plain_at .later [] [.handle] true (true, "25fb52c7a62141da201c992de07690019f706bfb1a8ff032f6eb55d89aef45fd") true
    over (fun _ h => by cases h) byText (fun _ h => by cases h) podOnce_row_tie rfl ⟨rfl, rfl⟩ fMain rfl
    (fun f fn hf hfn => by
      obtain rfl : f = 12 := (Option.some.inj (named.symm.trans hf)).symm
      obtain rfl : fn = Tryd.f12 := (Option.some.inj (Tryd.func12.symm.trans hfn)).symm
      exact ⟨looks_, fun j t ht => by
        rw [Tryd.params12] at ht
        have hm : t ∈ [59] := by simpa using Array.mem_of_getElem? ht
        exact (show Tryd.prog.wantsStandIn t = false by simpa using List.all_eq_true.1 params_ t hm)⟩)
    goes_
#print axioms proved
end Go.Proofs.YtcegipkhmibdeaaDoor.podOnce
namespace Go.Proofs.YtcegipkhmibdeaaDoor
/-- The card, under a short name. -/
theorem podOnce_holds : Rows.PodOnceCardSaid := podOnce.proved
end Go.Proofs.YtcegipkhmibdeaaDoor
