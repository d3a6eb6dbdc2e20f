/- What the Pod laws share, part 4: PoeC, Sized, PodDoor, PoeD, PoeE, PoeF, PoeG. -/
import Derived.Test.YtcegipkhmibdeaaDoorPods3
import Derived.Test.YtcegipkhmibdeaaDoorRows
import Derived.SizedLaws
import Derived.ProofKit
import Derived.OpenShut
import Derived.Test.YtcegipkhmibdeaaDoorPods1
import Derived.Deep.Slices
/- hammocklaw13: the operations that come in; code, few. -/
namespace Go.Proofs.YtcegipkhmibdeaaDoor
set_option linter.all false
open Go.RowKit

/-- An operation of the law. -/
structure Op13 where
  ev : Int
  pod : Pod
  node : Int
  dead : Int
abbrev op13V (o : Op13) (rv : Value) : Value := .agg #[.int .i64 o.ev, .int .i64 o.pod.id, .int .i64 o.pod.prio, .bool o.pod.pre, .int .i64 o.pod.grace, rv, .int .i64 o.pod.arr, .int .i64 o.pod.ph, .int .i64 o.pod.node, .int .i64 o.pod.dead, .int .i64 o.node, .int .i64 o.dead]
def opAt (ops : List Op13) (j : Nat) : Op13 := ops.getD j ⟨0, pod0, 0, 0⟩
theorem opAt_get {ops : List Op13} {j : Nat} (h : j < ops.length) : opAt ops j = ops[j] := by unfold opAt; rw [List.getD_eq_getElem?_getD, List.getElem?_eq_getElem h]; rfl
/-- The twelve cells of an operation. -/
def OpCells (w : World) (b o : Nat) (x : Op13) (rv : Value) : Prop :=
  w.cell? ⟨b, o, none⟩ = some (.int .i64 x.ev) ∧ PodCells w b (o + 1) x.pod rv ∧ w.cell? ⟨b, o + 10, none⟩ = some (.int .i64 x.node) ∧ w.cell? ⟨b, o + 11, none⟩ = some (.int .i64 x.dead)
theorem OpCells.below {w w' : World} {n b o : Nat} {x : Op13} {rv : Value} (h : OpCells w b o x rv) (hb : Below n w w') (hl : b < n) : OpCells w' b o x rv :=
  ⟨keepc hb hl h.1, h.2.1.below hb hl, keepc hb hl h.2.2.1, keepc hb hl h.2.2.2⟩
/-- A slice of operations. -/
def OpsAt (w : World) (v : Value) (ops : List Op13) : Prop :=
  ∃ a cap, v = .slice a ops.length cap ∧ (ops = [] ∨ ∃ b off, a = some ⟨b, off, none⟩ ∧ b < w.heap.size ∧ ∀ j, j < ops.length → ∃ rv, OpCells w b (off + j * 12) (opAt ops j) rv ∧ IntsAt w rv (opAt ops j).pod.req)
theorem OpsAt.below {w w' : World} {v : Value} {ops : List Op13} (h : OpsAt w v ops) (hb : Below w.heap.size w w') : OpsAt w' v ops := by
  obtain ⟨a, cap, rfl, h | ⟨b, off, rfl, hlt, hc⟩⟩ := h
  · exact ⟨a, cap, rfl, .inl h⟩
  · refine ⟨_, cap, rfl, .inr ⟨b, off, rfl, Nat.lt_of_lt_of_le hlt hb.size, fun j hj => ?_⟩⟩
    obtain ⟨rv, h1, h2⟩ := hc j hj
    exact ⟨rv, h1.below hb hlt, h2.below hb⟩
set_option maxRecDepth 100000 in
theorem code13_any (e : Option EV) (w : World) (hE : ErrType w) : Calls Tryd.prog 102 #[errV e] w fun r w' => r = .returned (.int .i64 ((e.bind EV.asC).getD 0)) ∧ Below w.heap.size w w' := by
  have HC := Lib.hid fun w hE => faultCode_any e w hE
  generalize errV e = ev at *
  generalize ((e.bind EV.asC).getD 0) = c at *
  generalize ((e.bind EV.asC).isSome) = s at *
  have HE := Lib.hid hE; clear hE
  go_enter Tryd.func102, Tryd.ntmps102
  go_wp2_with fail
  refine (HC.out _ HE.out).mono ?_
  rintro r w' ⟨rfl, hb⟩
  have HB := Lib.hid hb; clear hb
  go_wp2
  go_ret
  exact ⟨rfl, HB.out⟩
def few13P (ops : List Op13) : Bool := ops.all (fun o => fewOne o.pod) && decide (ops.length ≤ 60)
theorem few13_step {ops : List Op13} {k : Nat} (h : k < ops.length) : (ops.drop k).all (fun o => fewOne o.pod) = (fewOne (opAt ops k).pod && (ops.drop (k + 1)).all (fun o => fewOne o.pod)) := by
  rw [List.drop_eq_getElem_cons h, opAt_get h, List.all_cons]
theorem fewP_one (p : Pod) : fewP [p] = fewOne p := by simp [fewP]
theorem podsAt_new (w : World) (p : Pod) (rv : Value) (hi : IntsAt w rv p.req) : PodsAt (w.alloc (.cells #[.int .i64 p.id, .int .i64 p.prio, .bool p.pre, .int .i64 p.grace, rv, .int .i64 p.arr, .int .i64 p.ph, .int .i64 p.node, .int .i64 p.dead] 65)) (.slice (some ⟨w.heap.size, 0, none⟩) 1 1) [p] := by
  refine ⟨_, 1, rfl, .inr ⟨w.heap.size, 0, rfl, by simp, fun j hj => ?_⟩⟩
  obtain rfl : j = 0 := by simp at hj; exact hj
  refine ⟨rv, ⟨?_, ?_, ?_, ?_, ?_, ?_, ?_, ?_, ?_⟩, hi.below ((Below.refl _ _).alloc (Nat.le_refl _) _)⟩ <;> (simp only [Nat.zero_mul, Nat.zero_add, podAt, List.getD_cons_zero]; go_simp)
set_option maxHeartbeats 1000000 in
set_option maxRecDepth 100000 in
theorem few13_some (b off cap : Nat) (ops : List Op13) (w : World) (hx : ops.length * 96 ≤ 140737488351232) (hb : b < w.heap.size)
    (hc : ∀ j, j < ops.length → ∃ rv, OpCells w b (off + j * 12) (opAt ops j) rv ∧ IntsAt w rv (opAt ops j).pod.req) :
    Calls Tryd.prog 55 #[.slice (some ⟨b, off, none⟩) ops.length cap] w fun e w' => e = .returned (.bool (few13P ops)) ∧ Below w.heap.size w w' := by
  obtain ⟨l, hl⟩ : ∃ n, n = ops.length := ⟨_, rfl⟩
  rw [← hl] at hx ⊢
  have HL := Lib.hid hl; clear hl
  have HC := Lib.hid hc; clear hc
  go_enter Tryd.func55, Tryd.ntmps55
  go_wp2
  go_loopw [3] (fun i wr => ∃ k : Nat, k ≤ l ∧ i = .int .i64 k ∧ Hid (ops.all (fun o => fewOne o.pod) = (ops.drop k).all (fun o => fewOne o.pod)) ∧ Aside (Below w.heap.size w wr)) (fun i _ => l - (intOf i).toNat)
  case atStart => exact ⟨0, Nat.zero_le _, rfl, rfl, Below.refl _ _⟩
  case round =>
    obtain ⟨k, hk, rfl, hrun, hbw⟩ := hrel
    by_cases hlt : k < l
    · obtain ⟨rv, hcc, hri⟩ := HC.out k (by rw [← HL.out]; exact hlt)
      have hs := few13_step (ops := ops) (k := k) (by rw [← HL.out]; exact hlt)
      generalize opAt ops k = x at *
      have hcr := hcc.below hbw.out hb
      have hir := hri.below hbw.out
      clear hcc hri
      obtain ⟨a, c1, rfl, -⟩ := id hir
      obtain ⟨n1, hn1⟩ : ∃ n, n = x.pod.req.length := ⟨_, rfl⟩
      rw [← hn1] at hcr hir
      have HN1 := Lib.hid hn1; clear hn1
      have HIR := Lib.hid hir; clear hir
      obtain ⟨p0, ⟨q0, q1, q2, q3, q4, q5, q6, q7, q8⟩, -, -⟩ := hcr
      clear p0
      have hki : (0 : Int) ≤ (k : Int) := by omega
      have hkl : (k : Int) < (l : Int) := by omega
      have hsz := hbw.out.size
      have hbl : b < wr.heap.size := by omega
      have HF : Hid (∀ v, v = Value.slice a n1 c1 → Calls Tryd.prog 58 #[.slice (some ⟨wr.heap.size, 0, none⟩) 1 1] (wr.alloc (.cells #[.int .i64 x.pod.id, .int .i64 x.pod.prio, .bool x.pod.pre, .int .i64 x.pod.grace, v, .int .i64 x.pod.arr, .int .i64 x.pod.ph, .int .i64 x.pod.node, .int .i64 x.pod.dead] 65)) fun e w' => e = .returned (.bool (fewOne x.pod)) ∧ (wr.alloc (.cells #[.int .i64 x.pod.id, .int .i64 x.pod.prio, .bool x.pod.pre, .int .i64 x.pod.grace, v, .int .i64 x.pod.arr, .int .i64 x.pod.ph, .int .i64 x.pod.node, .int .i64 x.pod.dead] 65)) = w') := fun v hv => by
        subst hv
        have h := few_any (.slice (some ⟨wr.heap.size, 0, none⟩) 1 1) [x.pod] _ (by simp) (podsAt_new wr x.pod (.slice a n1 c1) HIR.out)
        rw [fewP_one] at h
        exact h
      have HB1 : Hid (∀ o : Obj, Below w.heap.size w (wr.alloc o)) := fun o => hbw.out.alloc hsz _
      have HB := Lib.hid hbw; clear hbw
      cases hf : fewOne x.pod
      · rw [hf] at hs HF
        have hfin : Hid (few13P ops = false) := by unfold few13P; rw [hrun.out, hs]; rfl
        clear hs hrun hf
        go_wp2_with fail
        refine (HF.out _ rfl).mono ?_
        rintro e w' ⟨rfl, rfl⟩
        go_wp2
        go_ret
        exact ⟨by rw [hfin.out]; rfl, HB1.out _⟩
      · rw [hf] at hs HF
        have hfin : Hid (ops.all (fun o => fewOne o.pod) = (ops.drop (k + 1)).all (fun o => fewOne o.pod)) := by rw [hrun.out, hs]; rfl
        clear hs hrun hf
        go_wp2_with fail
        refine (HF.out _ rfl).mono ?_
        rintro e w' ⟨rfl, rfl⟩
        go_wp2
        go_roundw
        case rel => exact ⟨k + 1, by omega, by go_num, hfin, HB1.out _⟩
        case measure => simp [intOf]; omega
    · have hfin : Hid (few13P ops = decide (l ≤ 60)) := by unfold few13P; rw [hrun.out, List.drop_eq_nil_of_le (by rw [← HL.out]; omega), ← HL.out]; rfl
      clear hrun
      by_cases h60 : l ≤ 60
      · have h' : (l : Int) ≤ 60 := by omega
        have hd : decide (l ≤ 60) = true := by simp [h60]
        rw [hd] at hfin
        clear h60 hd
        go_wp2
        go_ret
        exact ⟨by rw [hfin.out]; rfl, hbw.out⟩
      · have h' : ¬ (l : Int) ≤ 60 := by omega
        have hd : decide (l ≤ 60) = false := by simp [h60]
        rw [hd] at hfin
        clear h60 hd
        go_wp2
        go_ret
        exact ⟨by rw [hfin.out]; rfl, hbw.out⟩
set_option maxRecDepth 100000 in
theorem few13_none (a : Option Addr) (cap : Nat) (w : World) : Calls Tryd.prog 55 #[.slice a 0 cap] w fun e w' => e = .returned (.bool true) ∧ w = w' := by
  go_enter Tryd.func55, Tryd.ntmps55
  go_wp2
  refine wp_loop_rounds 1 ?_
  rw [rounds_succ]
  go_wp2
  go_ret
  exact ⟨rfl, rfl⟩
theorem few13_any (v : Value) (ops : List Op13) (w : World) (hx : ops.length * 96 ≤ 140737488351232) (h : OpsAt w v ops) :
    Calls Tryd.prog 55 #[v] w fun e w' => e = .returned (.bool (few13P ops)) ∧ Below w.heap.size w w' := by
  obtain ⟨a, cap, rfl, rfl | ⟨b, off, rfl, hlt, hc⟩⟩ := h
  · exact (few13_none a cap w).mono fun e w' ⟨h1, h2⟩ => ⟨h1, h2 ▸ Below.refl _ _⟩
  · exact few13_some b off cap ops w hx hlt hc
end Go.Proofs.YtcegipkhmibdeaaDoor
/- How long a slice that came in may be. -/
namespace Go.Proofs.YtcegipkhmibdeaaDoor
set_option linter.all false
open Go.ChangeShapes Go.WideShapes Go.RowKit
/-- A slice of whole numbers that came in is no longer than its weight allows. -/
theorem sized_ints_k {H : Type} {enc : TypeId × Value → H} {P : Program} {W : World} {base : Nat} {spare : Nat → Bool} {held : Bool} {t e : TypeId} {k : IntKind} {a : Option Addr} {len cap : Nat} {d : DataW H} {ps : List MemPlace} {ts : List TypeId} {ds : List (DataW H)} {j : Nat}
    (hsz : (DataW.weightsEach P ts ds).all (· ≤ reachBytes) = true) (ht : ts[j]? = some t) (hd : ds[j]? = some d) (hu : P.underlying t = some (.slice e)) (he : P.underlying e = some (.int k)) (hc : P.cellsOf e = 1) (hB : P.bytesOf e = 8)
    (h : DataW.Trod enc P W base spare held t (.slice a len cap) d ps) : len * 8 ≤ 140737488351232 := by
  obtain ⟨fuel, hf⟩ := h
  rcases open_ints hu he hc hf with ⟨hcs, _⟩ | ⟨x, l, c, zs, hcs, _, hl, _, hz, hx, _, _⟩
  · simp [Value.cells] at hcs
    obtain ⟨rfl, rfl, rfl⟩ := hcs
    simp
  · simp [Value.cells] at hcs
    obtain ⟨rfl, rfl, rfl⟩ := hcs
    obtain ⟨hx, _⟩ := Prod.mk.inj hx
    subst hx
    have z := sized_slice hsz ht hd hu
    rw [hB] at z
    have hl2 : len ≤ zs.length := by rw [hz]; split <;> omega
    simp only [lits, List.length_map, List.length_take, List.length_drop] at z
    have : zs.length * 8 ≤ reachBytes := by
      rw [show min len zs.length + (zs.length - len) = zs.length by omega] at z
      exact z
    unfold reachBytes at this
    omega
end Go.Proofs.YtcegipkhmibdeaaDoor
/- What comes in, read for the walks: slices of pods, slices of operations of hammocklaw13. -/
namespace Go.Proofs.YtcegipkhmibdeaaDoor
set_option linter.all false
open Go.ChangeShapes Go.WideShapes Go.ChangeAt Go.WideMaps Go.WideElems Go.RowKit

theorem cellsPod : Tryd.prog.cellsOf 65 = 9 := by kernel_rfl
theorem cellsOp13 : Tryd.prog.cellsOf 67 = 12 := by kernel_rfl
theorem bytesPod : Tryd.prog.bytesOf 65 = 88 := by kernel_rfl
theorem bytesOp13 : Tryd.prog.bytesOf 67 = 112 := by kernel_rfl
theorem list9 {α : Type} {l : List α} (h : l.length = 9) : ∃ c0 c1 c2 c3 c4 c5 c6 c7 c8, l = [c0, c1, c2, c3, c4, c5, c6, c7, c8] := by
  match l, h with
  | [c0, c1, c2, c3, c4, c5, c6, c7, c8], _ => exact ⟨c0, c1, c2, c3, c4, c5, c6, c7, c8, rfl⟩
theorem list12 {α : Type} {l : List α} (h : l.length = 12) : ∃ c0 c1 c2 c3 c4 c5 c6 c7 c8 c9 c10 c11, l = [c0, c1, c2, c3, c4, c5, c6, c7, c8, c9, c10, c11] := by
  match l, h with
  | [c0, c1, c2, c3, c4, c5, c6, c7, c8, c9, c10, c11], _ => exact ⟨c0, c1, c2, c3, c4, c5, c6, c7, c8, c9, c10, c11, rfl⟩

set_option maxRecDepth 100000 in
/-- A pod's nine cells, read. -/
theorem pod_of {H : Type} {enc : TypeId × Value → H} {W : World} {base fuel : Nat} {cs : List Value} {x : DataW H × List MemPlace} {sp : Nat → Bool} {held : Bool} (h : DataW.trod enc Tryd.prog W base sp held fuel 65 cs = some x) :
    ∃ (q : Pod) (rv : Value), cs = cells9 q rv ∧ IntsAt W rv q.req := by
  obtain ⟨xs, n, _, _, hcl, hlen, hf⟩ := DataW.trod_struct Tryd.underlying65 h
  obtain ⟨c0, c1, c2, c3, c4, c5, c6, c7, c8, rfl⟩ := list9 (hcl.trans cellsPod)
  obtain ⟨y0, h0⟩ := field_at hlen hf 0 _ rfl
  have g0 : DataW.trod enc Tryd.prog W base sp held n 3 (([c0, c1, c2, c3, c4, c5, c6, c7, c8].drop 0).take (Tryd.prog.cellsOf 3)) = some y0 := h0
  rw [cellsInt] at g0
  replace h0 : DataW.trod enc Tryd.prog W base sp held n 3 [c0] = some y0 := g0
  obtain ⟨y1, h1⟩ := field_at hlen hf 1 _ rfl
  have g1 : DataW.trod enc Tryd.prog W base sp held n 3 (([c0, c1, c2, c3, c4, c5, c6, c7, c8].drop 1).take (Tryd.prog.cellsOf 3)) = some y1 := h1
  rw [cellsInt] at g1
  replace h1 : DataW.trod enc Tryd.prog W base sp held n 3 [c1] = some y1 := g1
  obtain ⟨y2, h2⟩ := field_at hlen hf 2 _ rfl
  have g2 : DataW.trod enc Tryd.prog W base sp held n 4 (([c0, c1, c2, c3, c4, c5, c6, c7, c8].drop 2).take (Tryd.prog.cellsOf 4)) = some y2 := h2
  rw [cellsBool] at g2
  replace h2 : DataW.trod enc Tryd.prog W base sp held n 4 [c2] = some y2 := g2
  obtain ⟨y3, h3⟩ := field_at hlen hf 3 _ rfl
  have g3 : DataW.trod enc Tryd.prog W base sp held n 3 (([c0, c1, c2, c3, c4, c5, c6, c7, c8].drop 3).take (Tryd.prog.cellsOf 3)) = some y3 := h3
  rw [cellsInt] at g3
  replace h3 : DataW.trod enc Tryd.prog W base sp held n 3 [c3] = some y3 := g3
  obtain ⟨y4, h4⟩ := field_at hlen hf 4 _ rfl
  have g4 : DataW.trod enc Tryd.prog W base sp held n 39 (([c0, c1, c2, c3, c4, c5, c6, c7, c8].drop 4).take (Tryd.prog.cellsOf 39)) = some y4 := h4
  rw [cellsI64s] at g4
  replace h4 : DataW.trod enc Tryd.prog W base sp held n 39 [c4] = some y4 := g4
  obtain ⟨y5, h5⟩ := field_at hlen hf 5 _ rfl
  have g5 : DataW.trod enc Tryd.prog W base sp held n 3 (([c0, c1, c2, c3, c4, c5, c6, c7, c8].drop 5).take (Tryd.prog.cellsOf 3)) = some y5 := h5
  rw [cellsInt] at g5
  replace h5 : DataW.trod enc Tryd.prog W base sp held n 3 [c5] = some y5 := g5
  obtain ⟨y6, h6⟩ := field_at hlen hf 6 _ rfl
  have g6 : DataW.trod enc Tryd.prog W base sp held n 3 (([c0, c1, c2, c3, c4, c5, c6, c7, c8].drop 6).take (Tryd.prog.cellsOf 3)) = some y6 := h6
  rw [cellsInt] at g6
  replace h6 : DataW.trod enc Tryd.prog W base sp held n 3 [c6] = some y6 := g6
  obtain ⟨y7, h7⟩ := field_at hlen hf 7 _ rfl
  have g7 : DataW.trod enc Tryd.prog W base sp held n 3 (([c0, c1, c2, c3, c4, c5, c6, c7, c8].drop 7).take (Tryd.prog.cellsOf 3)) = some y7 := h7
  rw [cellsInt] at g7
  replace h7 : DataW.trod enc Tryd.prog W base sp held n 3 [c7] = some y7 := g7
  obtain ⟨y8, h8⟩ := field_at hlen hf 8 _ rfl
  have g8 : DataW.trod enc Tryd.prog W base sp held n 3 (([c0, c1, c2, c3, c4, c5, c6, c7, c8].drop 8).take (Tryd.prog.cellsOf 3)) = some y8 := h8
  rw [cellsInt] at g8
  replace h8 : DataW.trod enc Tryd.prog W base sp held n 3 [c8] = some y8 := g8
  clear hf
  obtain ⟨v0, e0, -, -⟩ := DataW.trod_int Tryd.underlying3 h0
  obtain ⟨v1, e1, -, -⟩ := DataW.trod_int Tryd.underlying3 h1
  obtain ⟨v2, e2, -⟩ := DataW.trod_bool Tryd.underlying4 h2
  obtain ⟨v3, e3, -, -⟩ := DataW.trod_int Tryd.underlying3 h3
  obtain ⟨a, l, cp, e4⟩ := Go.Joins.slice_form Tryd.underlying39 h4
  obtain ⟨v5, e5, -, -⟩ := DataW.trod_int Tryd.underlying3 h5
  obtain ⟨v6, e6, -, -⟩ := DataW.trod_int Tryd.underlying3 h6
  obtain ⟨v7, e7, -, -⟩ := DataW.trod_int Tryd.underlying3 h7
  obtain ⟨v8, e8, -, -⟩ := DataW.trod_int Tryd.underlying3 h8
  simp only [List.cons.injEq, and_true] at e0 e1 e2 e3 e4 e5 e6 e7 e8
  subst e0 e1 e2 e3 e4 e5 e6 e7 e8
  obtain ⟨zs, hl, hI⟩ := ints64_of h4
  subst hl
  exact ⟨⟨v0, v1, v2, v3, zs, v5, v6, v7, v8⟩, _, rfl, hI⟩

set_option maxRecDepth 100000 in
/-- The twelve cells of an operation, read. -/
theorem op13_of {H : Type} {enc : TypeId × Value → H} {W : World} {base fuel : Nat} {cs : List Value} {x : DataW H × List MemPlace} {sp : Nat → Bool} {held : Bool} (h : DataW.trod enc Tryd.prog W base sp held fuel 67 cs = some x) :
    ∃ (q : Op13) (rv : Value), cs = .int .i64 q.ev :: (cells9 q.pod rv ++ [.int .i64 q.node, .int .i64 q.dead]) ∧ IntsAt W rv q.pod.req := by
  obtain ⟨xs, n, _, _, hcl, hlen, hf⟩ := DataW.trod_struct Tryd.underlying67 h
  obtain ⟨c0, c1, c2, c3, c4, c5, c6, c7, c8, c9, c10, c11, rfl⟩ := list12 (hcl.trans cellsOp13)
  obtain ⟨y0, h0⟩ := field_at hlen hf 0 _ rfl
  have g0 : DataW.trod enc Tryd.prog W base sp held n 3 (([c0, c1, c2, c3, c4, c5, c6, c7, c8, c9, c10, c11].drop 0).take (Tryd.prog.cellsOf 3)) = some y0 := h0
  rw [cellsInt] at g0
  replace h0 : DataW.trod enc Tryd.prog W base sp held n 3 [c0] = some y0 := g0
  obtain ⟨y1, h1⟩ := field_at hlen hf 1 _ rfl
  have g1 : DataW.trod enc Tryd.prog W base sp held n 65 (([c0, c1, c2, c3, c4, c5, c6, c7, c8, c9, c10, c11].drop 1).take (Tryd.prog.cellsOf 65)) = some y1 := h1
  rw [cellsPod] at g1
  replace h1 : DataW.trod enc Tryd.prog W base sp held n 65 [c1, c2, c3, c4, c5, c6, c7, c8, c9] = some y1 := g1
  obtain ⟨y2, h2⟩ := field_at hlen hf 2 _ rfl
  have g2 : DataW.trod enc Tryd.prog W base sp held n 3 (([c0, c1, c2, c3, c4, c5, c6, c7, c8, c9, c10, c11].drop 10).take (Tryd.prog.cellsOf 3)) = some y2 := h2
  rw [cellsInt] at g2
  replace h2 : DataW.trod enc Tryd.prog W base sp held n 3 [c10] = some y2 := g2
  obtain ⟨y3, h3⟩ := field_at hlen hf 3 _ rfl
  have g3 : DataW.trod enc Tryd.prog W base sp held n 3 (([c0, c1, c2, c3, c4, c5, c6, c7, c8, c9, c10, c11].drop 11).take (Tryd.prog.cellsOf 3)) = some y3 := h3
  rw [cellsInt] at g3
  replace h3 : DataW.trod enc Tryd.prog W base sp held n 3 [c11] = some y3 := g3
  clear hf
  obtain ⟨v0, e0, -, -⟩ := DataW.trod_int Tryd.underlying3 h0
  obtain ⟨v2, e2, -, -⟩ := DataW.trod_int Tryd.underlying3 h2
  obtain ⟨v3, e3, -, -⟩ := DataW.trod_int Tryd.underlying3 h3
  obtain ⟨q, rv, e1, hI⟩ := pod_of h1
  simp only [List.cons.injEq, and_true] at e0 e2 e3
  subst e0 e2 e3
  refine ⟨⟨v0, q, v2, v3⟩, rv, ?_, hI⟩
  unfold cells9 at e1 ⊢
  simp only [List.cons.injEq, and_true] at e1
  obtain ⟨rfl, rfl, rfl, rfl, rfl, rfl, rfl, rfl, rfl⟩ := e1
  rfl

theorem addr_plain {W : World} {a : Addr} {v : Value} (h : W.cell? (a.add 0) = some v) : ∃ b off, a = ⟨b, off, none⟩ := by
  obtain ⟨b, off, spot⟩ := a
  have hspot : spot = none := by simpa [Addr.add] using World.cell?_spot h
  subst hspot
  exact ⟨b, off, rfl⟩
theorem choose_list {α : Type} [Inhabited α] {n : Nat} {P : Nat → α → Prop} (h : ∀ i, i < n → ∃ x, P i x) : ∃ l : List α, l.length = n ∧ ∀ i, (hi : i < l.length) → P i l[i] := by
  classical
  refine ⟨(List.range n).map fun i => if hi : i < n then Classical.choose (h i hi) else default, by simp, fun i hi => ?_⟩
  have hin : i < n := by simpa using hi
  simp only [List.getElem_map, List.getElem_range, hin, dif_pos]
  exact Classical.choose_spec (h i hin)
instance : Inhabited Pod := ⟨pod0⟩
instance : Inhabited Op13 := ⟨⟨0, pod0, 0, 0⟩⟩
/-- A slice of operations that came in, as the walks read it. -/
theorem ops13_of {H : Type} {enc : TypeId × Value → H} {W : World} {base : Nat} {a : Option Addr} {len cap fuel : Nat} {x : DataW H × List MemPlace} {sp : Nat → Bool} {held : Bool}
    (hf : DataW.trod enc Tryd.prog W base sp held fuel 59 [.slice a len cap] = some x) : ∃ ops : List Op13, ops.length = len ∧ OpsAt W (.slice a len cap) ops := by
  rcases Go.Deep.open_slice Tryd.underlying59 hf with ⟨hcs, _⟩ | ⟨y, l, c, m, n, D, Pl, hcs, _, hl, hm, hmm, hx, hi⟩
  · simp at hcs
    obtain ⟨rfl, rfl, rfl⟩ := hcs
    exact ⟨[], rfl, _, _, rfl, .inl rfl⟩
  · simp at hcs
    obtain ⟨rfl, rfl, rfl⟩ := hcs
    have hml : len ≤ m := by rw [hmm]; split <;> omega
    by_cases h0 : len = 0
    · subst h0; exact ⟨[], rfl, _, _, rfl, .inl rfl⟩
    have hcell : ∀ i, i < len → ∃ (q : Op13) (rv : Value), IntsAt W rv q.pod.req ∧ ∀ j u, (Value.int .i64 q.ev :: (cells9 q.pod rv ++ [.int .i64 q.node, .int .i64 q.dead]))[j]? = some u → W.cell? (y.add (i * 12 + j)) = some u := fun i hil => by
      obtain ⟨cs', hc, ht⟩ := hi i (by omega)
      rw [cellsOp13] at hc
      obtain ⟨q, rv, rfl, hI⟩ := op13_of ht
      obtain ⟨_, hcl, hat⟩ := World.cells?_some hc
      refine ⟨q, rv, hI, fun j u hu => ?_⟩
      have hj : j < 12 := by have := (List.getElem?_eq_some_iff.1 hu).1; rw [hcl] at this; exact this
      have := hat j hj
      rw [Go.Deep.add_add] at this
      rw [this]; exact hu
    obtain ⟨q0, rv0, _, h00⟩ := hcell 0 (by omega)
    obtain ⟨b, off, rfl⟩ := addr_plain (h00 0 _ rfl)
    obtain ⟨ops, hlo, ho⟩ := choose_list hcell
    subst hlo
    refine ⟨ops, rfl, _, cap, rfl, .inr ⟨b, off, rfl, ?_, fun k hk => ?_⟩⟩
    · have := h00 0 _ rfl
      rw [add_mk] at this
      exact cell_lt this
    · obtain ⟨rv, hI, hc⟩ := ho k hk
      rw [opAt_get hk]
      refine ⟨rv, ⟨?_, ⟨?_, ?_, ?_, ?_, ?_, ?_, ?_, ?_, ?_⟩, ?_, ?_⟩, hI⟩
      · have := hc 0 _ rfl; rw [add_mk] at this; exact this

      · have := hc 1 _ rfl; rw [add_mk] at this; exact (show W.cell? ⟨b, off + k * 12 + 1, none⟩ = _ by rw [show off + k * 12 + 1 = off + (k * 12 + 1) by omega]; exact this)
      · have := hc 2 _ rfl; rw [add_mk] at this; exact (show W.cell? ⟨b, off + k * 12 + 1 + 1, none⟩ = _ by rw [show off + k * 12 + 1 + 1 = off + (k * 12 + 2) by omega]; exact this)
      · have := hc 3 _ rfl; rw [add_mk] at this; exact (show W.cell? ⟨b, off + k * 12 + 1 + 2, none⟩ = _ by rw [show off + k * 12 + 1 + 2 = off + (k * 12 + 3) by omega]; exact this)
      · have := hc 4 _ rfl; rw [add_mk] at this; exact (show W.cell? ⟨b, off + k * 12 + 1 + 3, none⟩ = _ by rw [show off + k * 12 + 1 + 3 = off + (k * 12 + 4) by omega]; exact this)
      · have := hc 5 _ rfl; rw [add_mk] at this; exact (show W.cell? ⟨b, off + k * 12 + 1 + 4, none⟩ = _ by rw [show off + k * 12 + 1 + 4 = off + (k * 12 + 5) by omega]; exact this)
      · have := hc 6 _ rfl; rw [add_mk] at this; exact (show W.cell? ⟨b, off + k * 12 + 1 + 5, none⟩ = _ by rw [show off + k * 12 + 1 + 5 = off + (k * 12 + 6) by omega]; exact this)
      · have := hc 7 _ rfl; rw [add_mk] at this; exact (show W.cell? ⟨b, off + k * 12 + 1 + 6, none⟩ = _ by rw [show off + k * 12 + 1 + 6 = off + (k * 12 + 7) by omega]; exact this)
      · have := hc 8 _ rfl; rw [add_mk] at this; exact (show W.cell? ⟨b, off + k * 12 + 1 + 7, none⟩ = _ by rw [show off + k * 12 + 1 + 7 = off + (k * 12 + 8) by omega]; exact this)
      · have := hc 9 _ rfl; rw [add_mk] at this; exact (show W.cell? ⟨b, off + k * 12 + 1 + 8, none⟩ = _ by rw [show off + k * 12 + 1 + 8 = off + (k * 12 + 9) by omega]; exact this)
      · have := hc 10 _ rfl; rw [add_mk] at this; exact (show W.cell? ⟨b, off + k * 12 + 10, none⟩ = _ by rw [show off + k * 12 + 10 = off + (k * 12 + 10) by omega]; exact this)
      · have := hc 11 _ rfl; rw [add_mk] at this; exact (show W.cell? ⟨b, off + k * 12 + 11, none⟩ = _ by rw [show off + k * 12 + 11 = off + (k * 12 + 11) by omega]; exact this)
/-- A slice of pods that came in, as the walks read it. -/
theorem pods_of {H : Type} {enc : TypeId × Value → H} {W : World} {base : Nat} {a : Option Addr} {len cap fuel : Nat} {x : DataW H × List MemPlace} {sp : Nat → Bool} {held : Bool}
    (hf : DataW.trod enc Tryd.prog W base sp held fuel 72 [.slice a len cap] = some x) : ∃ ps : List Pod, ps.length = len ∧ PodsAt W (.slice a len cap) ps := by
  rcases Go.Deep.open_slice Tryd.underlying72 hf with ⟨hcs, _⟩ | ⟨y, l, c, m, n, D, Pl, hcs, _, hl, hm, hmm, hx, hi⟩
  · simp at hcs
    obtain ⟨rfl, rfl, rfl⟩ := hcs
    exact ⟨[], rfl, _, _, rfl, .inl rfl⟩
  · simp at hcs
    obtain ⟨rfl, rfl, rfl⟩ := hcs
    have hml : len ≤ m := by rw [hmm]; split <;> omega
    by_cases h0 : len = 0
    · subst h0; exact ⟨[], rfl, _, _, rfl, .inl rfl⟩
    have hcell : ∀ i, i < len → ∃ (q : Pod) (rv : Value), IntsAt W rv q.req ∧ ∀ j u, (cells9 q rv)[j]? = some u → W.cell? (y.add (i * 9 + j)) = some u := fun i hil => by
      obtain ⟨cs', hc, ht⟩ := hi i (by omega)
      rw [cellsPod] at hc
      obtain ⟨q, rv, rfl, hI⟩ := pod_of ht
      obtain ⟨_, hcl, hat⟩ := World.cells?_some hc
      refine ⟨q, rv, hI, fun j u hu => ?_⟩
      have hj : j < 9 := by have := (List.getElem?_eq_some_iff.1 hu).1; rw [hcl] at this; exact this
      have := hat j hj
      rw [Go.Deep.add_add] at this
      rw [this]; exact hu
    obtain ⟨q0, rv0, _, h00⟩ := hcell 0 (by omega)
    obtain ⟨b, off, rfl⟩ := addr_plain (h00 0 _ rfl)
    obtain ⟨ps, hlo, ho⟩ := choose_list hcell
    subst hlo
    refine ⟨ps, rfl, _, cap, rfl, .inr ⟨b, off, rfl, ?_, fun k hk => ?_⟩⟩
    · have := h00 0 _ rfl
      rw [add_mk] at this
      exact cell_lt this
    · obtain ⟨rv, hI, hc⟩ := ho k hk
      rw [podAt_get hk]
      have key : ∀ j u, (cells9 ps[k] rv)[j]? = some u → W.cell? ⟨b, off + k * 9 + j, none⟩ = some u := fun j u hu => by
        have := hc j u hu; rw [add_mk] at this; rw [show off + k * 9 + j = off + (k * 9 + j) by omega]; exact this
      exact ⟨rv, ⟨key 0 _ rfl, key 1 _ rfl, key 2 _ rfl, key 3 _ rfl, key 4 _ rfl, key 5 _ rfl, key 6 _ rfl, key 7 _ rfl, key 8 _ rfl⟩, hI⟩
/-- A slice that came in is no longer than its weight allows. -/
theorem sized_any {H : Type} {enc : TypeId × Value → H} {P : Program} {W : World} {base : Nat} {spare : Nat → Bool} {held : Bool} {t e : TypeId} {a : Option Addr} {len cap : Nat} {d : DataW H} {ps : List MemPlace} {ts : List TypeId} {ds : List (DataW H)} {j n : Nat}
    (hsz : (DataW.weightsEach P ts ds).all (· ≤ reachBytes) = true) (ht : ts[j]? = some t) (hd : ds[j]? = some d) (hu : P.underlying t = some (.slice e)) (hB : P.bytesOf e = n)
    (h : DataW.Trod enc P W base spare held t (.slice a len cap) d ps) : len * n ≤ 140737488351232 := by
  obtain ⟨fuel, hf⟩ := h
  rcases Go.Deep.open_slice hu hf with ⟨hcs, _⟩ | ⟨y, l, c, m, k, D, Pl, hcs, _, hl, hm, hmm, hx, hi⟩
  · simp [Value.cells] at hcs
    obtain ⟨rfl, rfl, rfl⟩ := hcs
    simp
  · simp [Value.cells] at hcs
    obtain ⟨rfl, rfl, rfl⟩ := hcs
    obtain ⟨hx, _⟩ := Prod.mk.inj hx
    subst hx
    have z := sized_slice hsz ht hd hu
    rw [hB] at z
    simp only [List.length_map, List.length_range] at z
    have z2 : len * n ≤ (len + (m - len)) * n := Nat.mul_le_mul_right n (by omega)
    unfold reachBytes at z
    omega
end Go.Proofs.YtcegipkhmibdeaaDoor
/- hammocklaw13.awake returns true. -/
namespace Go.Proofs.YtcegipkhmibdeaaDoor
set_option linter.all false
open Go.RowKit

theorem StoreAt.off {m : Mem} {B : Nat} {X : Nat → Prop} {w : World} {size : Int} {ps : List Pod} (h : StoreAt m B X w size ps) {b : Nat} (hb : b < B) : Off m b := by
  have := h.bs
  have := h.bm
  have := h.gi
  exact ⟨by omega, by omega, by omega⟩
/-- What a step leaves, where the list and the code are known. -/
theorem OpPost.known {m : Mem} {B : Nat} {size : Int} {R : List Pod × Int} {q q' : Pod} {w : World} {e : Ending} {w' : World} (h : OpPost m B (fun b => B ≤ b) size R q w e w') (hBw : B ≤ w.heap.size) {ps : List Pod} {c : Int} (hR : R = (ps, c)) (hq : q = q') (hl : q'.req = []) {ev : Value} (hev : errV (if c = 0 then none else some (.fault c 0)) = ev) :
    ∃ g' a cap, e = .returned (.tuple #[podV q' (.slice a 0 cap), ev]) ∧ StoreAt { m with gi := g' } B (fun b => B ≤ b) w' size ps ∧ (0 < ps.length → g' < w'.heap.size) ∧ (g' = m.gi ∨ w.heap.size ≤ g') ∧ Stays (Off m) w w' := by
  obtain ⟨g', a, cap, c', rfl, h1, h2, h3, h4, h5, h6⟩ := h
  subst hR
  subst hq
  refine ⟨g', a, cap, by rw [← hev, hl]; rfl, h1.imp fun b _ hb => by rcases hb.1 with hx | hx <;> omega, fun h0 => h1.giLt h0, h3.imp id And.left, h5⟩
theorem Off.next {m : Mem} {b g' n : Nat} (h : Off m b) (hb : b < n) (hg : g' = m.gi ∨ n ≤ g') : Off { m with gi := g' } b := by
  refine ⟨h.1, h.2.1, ?_⟩
  rcases hg with rfl | hg
  · exact h.2.2
  · show b ≠ g'; omega

theorem ok13 : PodsOk [⟨7, 3, false, 0, [], 0, 3, 3, -1⟩] := by
  refine ⟨fun k hk => ?_, ⟨by decide, fun j hj => ?_⟩, by decide⟩
  · obtain rfl : k = 0 := by simp at hk; exact hk
    decide
  · obtain rfl : j = 0 := by simp at hj; exact hj
    decide
set_option maxHeartbeats 8000000 in
set_option maxRecDepth 100000 in
theorem awake13_any (w : World) (hE : ErrType w) : Calls Tryd.prog 54 #[] w fun e w' => e = .returned (.bool true) ∧ Below w.heap.size w w' := by
  have HE := Lib.hid hE; clear hE
  have hnw := pnew_any 1 w (by omega) (by omega) w.heap.size (Nat.le_refl _)
  have HNil := Lib.hid fun w => ssub_nil ⟨0, 0, false, 0, [], 0, 0, 0, 0⟩ (.slice none 0 0) w
  generalize freshMem w.heap.size = m0 at hnw
  obtain ⟨bs, bt, bm, gi⟩ := m0
  have HNW := Lib.hid hnw; clear hnw
  go_enter Tryd.func54, Tryd.ntmps54
  go_wp2_with fail
  refine HNW.out.mono ?_
  rintro e V ⟨rfl, hst, hB, hsz⟩
  have HST : Hid (StoreAt ⟨bs, bt, bm, gi⟩ w.heap.size (fun b => w.heap.size ≤ b) V 1 []) := hst
  have HB := Lib.hid hB
  clear hst hB hsz
  clear HNW
  -- step 0
  have hop := (ssub_any (m := ⟨bs, bt, bm, gi⟩) 1 ⟨7, 3, false, 0, [], 0, 9, 9, 0⟩ (.slice none 0 0) V rfl (by omega) (by decide) (by decide) (by decide) HST.out ⟨none, 0, rfl, .inl rfl⟩ (HE.out.below HB.out)).mono fun e w' h => h.known HB.out.size (ps := [⟨7, 3, false, 0, [], 0, 1, -1, -1⟩]) (c := 0) (q' := ⟨7, 3, false, 0, [], 0, 1, -1, -1⟩) (by first | rfl | decide) (by first | rfl | decide) rfl (ev := .nilIface) rfl
  have HOP := Lib.hid hop; clear hop
  go_wp2_with fail
  refine HOP.out.mono ?_
  rintro e u0 ⟨g0, a0, c0, rfl, hst, hgl, hg, hS⟩
  have hbsV : bs < V.heap.size := cell_lt HST.out.c0
  have hbmV : bm < V.heap.size := by obtain ⟨rvs', hm, _⟩ := HST.out.map; exact hm.lt
  have hB' : Below w.heap.size w u0 := HB.out.trans (hS.below HB.out.size fun b hb => HST.out.off hb)
  have hszS := hS.size
  replace hgl := hgl (by decide)
  have HB : Hid (Below w.heap.size w (u0.alloc (.cells #[.int .i64 7, .int .i64 3, .bool false, .int .i64 0, .slice a0 0 c0, .int .i64 0, .int .i64 1, .int .i64 (-1), .int .i64 (-1)] 65))) := hB'.alloc hB'.size _
  have HST : Hid (StoreAt ⟨bs, bt, bm, g0⟩ w.heap.size (fun b => w.heap.size ≤ b) (u0.alloc (.cells #[.int .i64 7, .int .i64 3, .bool false, .int .i64 0, .slice a0 0 c0, .int .i64 0, .int .i64 1, .int .i64 (-1), .int .i64 (-1)] 65)) 1 [⟨7, 3, false, 0, [], 0, 1, -1, -1⟩]) := StoreAt.below (m := ⟨bs, bt, bm, g0⟩) hst ((Below.refl _ _).alloc (Nat.le_refl _) _)
  have HPO : Hid (Off ⟨bs, bt, bm, g0⟩ u0.heap.size) := ⟨by show u0.heap.size ≠ bs; omega, by show u0.heap.size ≠ bm; omega, by show u0.heap.size ≠ g0; omega⟩
  obtain ⟨V0, hV0⟩ : ∃ V0, V0 = (u0.alloc (.cells #[.int .i64 7, .int .i64 3, .bool false, .int .i64 0, .slice a0 0 c0, .int .i64 0, .int .i64 1, .int .i64 (-1), .int .i64 (-1)] 65)) := ⟨_, rfl⟩
  rw [← hV0] at HB HST
  have P6 : V0.cell? ⟨u0.heap.size, 6, none⟩ = some (.int .i64 1) := by rw [hV0]; go_simp
  have P7 : V0.cell? ⟨u0.heap.size, 7, none⟩ = some (.int .i64 (-1)) := by rw [hV0]; go_simp
  have hbp : u0.heap.size < V0.heap.size := cell_lt P6
  clear HOP hst hS hbsV hbmV hB'
  have HV := Lib.hid hV0; clear hV0
  -- step 1
  have hop := (ssub_any (m := ⟨bs, bt, bm, g0⟩) 1 ⟨7, 0, false, 0, [], 0, 0, 0, 0⟩ (.slice none 0 0) V0 rfl (by omega) (by decide) (by decide) (by decide) HST.out ⟨none, 0, rfl, .inl rfl⟩ (HE.out.below HB.out)).mono fun e w' h => h.known HB.out.size (ps := [⟨7, 3, false, 0, [], 0, 1, -1, -1⟩]) (c := 6) (q' := ⟨0, 0, false, 0, [], 0, 0, 0, 0⟩) (by first | rfl | decide) (by first | rfl | decide) rfl (ev := .iface 106 (.agg #[.int .i64 6, .int .i64 0])) rfl
  have HOP := Lib.hid hop; clear hop
  go_wp2_with fail
  refine calls_named fun Y hY => ?_
  rw [← HV.out] at hY
  obtain rfl : V0 = Y := hY.symm
  clear HV
  refine HOP.out.mono ?_
  rintro e u1 ⟨g1, a1, c1, rfl, hst, hgl, hg, hS⟩
  have hbsV : bs < V0.heap.size := cell_lt HST.out.c0
  have hbmV : bm < V0.heap.size := by obtain ⟨rvs', hm, _⟩ := HST.out.map; exact hm.lt
  have hB' : Below w.heap.size w u1 := HB.out.trans (hS.below HB.out.size fun b hb => HST.out.off hb)
  have hszS := hS.size
  replace hgl := hgl (by decide)
  have P6 : u1.cell? ⟨u0.heap.size, 6, none⟩ = some (.int .i64 1) := hS.cell HPO.out P6
  have P7 : u1.cell? ⟨u0.heap.size, 7, none⟩ = some (.int .i64 (-1)) := hS.cell HPO.out P7
  have HPO : Hid (Off ⟨bs, bt, bm, g1⟩ u0.heap.size) := Off.next HPO.out hbp hg
  have HB : Hid (Below w.heap.size w (u1.alloc (.cells #[.int .i64 0, .int .i64 0, .bool false, .int .i64 0, .slice a1 0 c1, .int .i64 0, .int .i64 0, .int .i64 (0), .int .i64 (0)] 65))) := hB'.alloc hB'.size _
  have HST : Hid (StoreAt ⟨bs, bt, bm, g1⟩ w.heap.size (fun b => w.heap.size ≤ b) (u1.alloc (.cells #[.int .i64 0, .int .i64 0, .bool false, .int .i64 0, .slice a1 0 c1, .int .i64 0, .int .i64 0, .int .i64 (0), .int .i64 (0)] 65)) 1 [⟨7, 3, false, 0, [], 0, 1, -1, -1⟩]) := StoreAt.below (m := ⟨bs, bt, bm, g1⟩) hst ((Below.refl _ _).alloc (Nat.le_refl _) _)
  obtain ⟨V1, hV1⟩ : ∃ V1, V1 = (u1.alloc (.cells #[.int .i64 0, .int .i64 0, .bool false, .int .i64 0, .slice a1 0 c1, .int .i64 0, .int .i64 0, .int .i64 (0), .int .i64 (0)] 65)) := ⟨_, rfl⟩
  rw [← hV1] at HB HST
  have P6 : V1.cell? ⟨u0.heap.size, 6, none⟩ = some (.int .i64 1) := by rw [hV1]; exact keepl ((Below.refl _ _).alloc (Nat.le_refl _) _) P6
  have P7 : V1.cell? ⟨u0.heap.size, 7, none⟩ = some (.int .i64 (-1)) := by rw [hV1]; exact keepl ((Below.refl _ _).alloc (Nat.le_refl _) _) P7
  have hbp : u0.heap.size < V1.heap.size := cell_lt P6
  clear HOP hst hS hbsV hbmV hB'
  have HV := Lib.hid hV1; clear hV1
  -- step 2
  have hop := (ssub_any (m := ⟨bs, bt, bm, g1⟩) 1 ⟨8, 0, false, 0, [], 0, 0, 0, 0⟩ (.slice none 0 0) V1 rfl (by omega) (by decide) (by decide) (by decide) HST.out ⟨none, 0, rfl, .inl rfl⟩ (HE.out.below HB.out)).mono fun e w' h => h.known HB.out.size (ps := [⟨7, 3, false, 0, [], 0, 1, -1, -1⟩]) (c := 7) (q' := ⟨0, 0, false, 0, [], 0, 0, 0, 0⟩) (by first | rfl | decide) (by first | rfl | decide) rfl (ev := .iface 106 (.agg #[.int .i64 7, .int .i64 0])) rfl
  have HOP := Lib.hid hop; clear hop
  go_wp2_with fail
  refine calls_named fun Y hY => ?_
  rw [← HV.out] at hY
  obtain rfl : V1 = Y := hY.symm
  clear HV
  refine HOP.out.mono ?_
  rintro e u2 ⟨g2, a2, c2, rfl, hst, hgl, hg, hS⟩
  have hbsV : bs < V1.heap.size := cell_lt HST.out.c0
  have hbmV : bm < V1.heap.size := by obtain ⟨rvs', hm, _⟩ := HST.out.map; exact hm.lt
  have hB' : Below w.heap.size w u2 := HB.out.trans (hS.below HB.out.size fun b hb => HST.out.off hb)
  have hszS := hS.size
  replace hgl := hgl (by decide)
  have P6 : u2.cell? ⟨u0.heap.size, 6, none⟩ = some (.int .i64 1) := hS.cell HPO.out P6
  have P7 : u2.cell? ⟨u0.heap.size, 7, none⟩ = some (.int .i64 (-1)) := hS.cell HPO.out P7
  have HPO : Hid (Off ⟨bs, bt, bm, g2⟩ u0.heap.size) := Off.next HPO.out hbp hg
  have HB : Hid (Below w.heap.size w (u2.alloc (.cells #[.int .i64 0, .int .i64 0, .bool false, .int .i64 0, .slice a2 0 c2, .int .i64 0, .int .i64 0, .int .i64 (0), .int .i64 (0)] 65))) := hB'.alloc hB'.size _
  have HST : Hid (StoreAt ⟨bs, bt, bm, g2⟩ w.heap.size (fun b => w.heap.size ≤ b) (u2.alloc (.cells #[.int .i64 0, .int .i64 0, .bool false, .int .i64 0, .slice a2 0 c2, .int .i64 0, .int .i64 0, .int .i64 (0), .int .i64 (0)] 65)) 1 [⟨7, 3, false, 0, [], 0, 1, -1, -1⟩]) := StoreAt.below (m := ⟨bs, bt, bm, g2⟩) hst ((Below.refl _ _).alloc (Nat.le_refl _) _)
  obtain ⟨V2, hV2⟩ : ∃ V2, V2 = (u2.alloc (.cells #[.int .i64 0, .int .i64 0, .bool false, .int .i64 0, .slice a2 0 c2, .int .i64 0, .int .i64 0, .int .i64 (0), .int .i64 (0)] 65)) := ⟨_, rfl⟩
  rw [← hV2] at HB HST
  have P6 : V2.cell? ⟨u0.heap.size, 6, none⟩ = some (.int .i64 1) := by rw [hV2]; exact keepl ((Below.refl _ _).alloc (Nat.le_refl _) _) P6
  have P7 : V2.cell? ⟨u0.heap.size, 7, none⟩ = some (.int .i64 (-1)) := by rw [hV2]; exact keepl ((Below.refl _ _).alloc (Nat.le_refl _) _) P7
  have hbp : u0.heap.size < V2.heap.size := cell_lt P6
  clear HOP hst hS hbsV hbmV hB'
  have HV := Lib.hid hV2; clear hV2
  -- step 3
  have hop := (sapp_any (m := ⟨bs, bt, bm, g2⟩) 7 1 3 0 V2 HST.out (by decide)).mono fun e w' h => h.known HB.out.size (ps := [⟨7, 3, false, 0, [], 0, 3, 3, -1⟩]) (c := 0) (q' := ⟨7, 3, false, 0, [], 0, 3, 3, -1⟩) (by first | rfl | decide) (by first | rfl | decide) rfl (ev := .nilIface) rfl
  have HOP := Lib.hid hop; clear hop
  go_wp2_with fail
  refine calls_named fun Y hY => ?_
  rw [← HV.out] at hY
  obtain rfl : V2 = Y := hY.symm
  clear HV
  refine HOP.out.mono ?_
  rintro e u3 ⟨g3, a3, c3, rfl, hst, hgl, hg, hS⟩
  have hbsV : bs < V2.heap.size := cell_lt HST.out.c0
  have hbmV : bm < V2.heap.size := by obtain ⟨rvs', hm, _⟩ := HST.out.map; exact hm.lt
  have hB' : Below w.heap.size w u3 := HB.out.trans (hS.below HB.out.size fun b hb => HST.out.off hb)
  have hszS := hS.size
  replace hgl := hgl (by decide)
  have P6 : u3.cell? ⟨u0.heap.size, 6, none⟩ = some (.int .i64 1) := hS.cell HPO.out P6
  have P7 : u3.cell? ⟨u0.heap.size, 7, none⟩ = some (.int .i64 (-1)) := hS.cell HPO.out P7
  have HPO : Hid (Off ⟨bs, bt, bm, g3⟩ u0.heap.size) := Off.next HPO.out hbp hg
  have HB : Hid (Below w.heap.size w (u3.alloc (.cells #[.int .i64 7, .int .i64 3, .bool false, .int .i64 0, .slice a3 0 c3, .int .i64 0, .int .i64 3, .int .i64 (3), .int .i64 (-1)] 65))) := hB'.alloc hB'.size _
  have HST : Hid (StoreAt ⟨bs, bt, bm, g3⟩ w.heap.size (fun b => w.heap.size ≤ b) (u3.alloc (.cells #[.int .i64 7, .int .i64 3, .bool false, .int .i64 0, .slice a3 0 c3, .int .i64 0, .int .i64 3, .int .i64 (3), .int .i64 (-1)] 65)) 1 [⟨7, 3, false, 0, [], 0, 3, 3, -1⟩]) := StoreAt.below (m := ⟨bs, bt, bm, g3⟩) hst ((Below.refl _ _).alloc (Nat.le_refl _) _)
  have HQO : Hid (Off ⟨bs, bt, bm, g3⟩ u3.heap.size) := ⟨by show u3.heap.size ≠ bs; omega, by show u3.heap.size ≠ bm; omega, by show u3.heap.size ≠ g3; omega⟩
  obtain ⟨V3, hV3⟩ : ∃ V3, V3 = (u3.alloc (.cells #[.int .i64 7, .int .i64 3, .bool false, .int .i64 0, .slice a3 0 c3, .int .i64 0, .int .i64 3, .int .i64 (3), .int .i64 (-1)] 65)) := ⟨_, rfl⟩
  rw [← hV3] at HB HST
  have P6 : V3.cell? ⟨u0.heap.size, 6, none⟩ = some (.int .i64 1) := by rw [hV3]; exact keepl ((Below.refl _ _).alloc (Nat.le_refl _) _) P6
  have P7 : V3.cell? ⟨u0.heap.size, 7, none⟩ = some (.int .i64 (-1)) := by rw [hV3]; exact keepl ((Below.refl _ _).alloc (Nat.le_refl _) _) P7
  have hbp : u0.heap.size < V3.heap.size := cell_lt P6
  have Q6 : V3.cell? ⟨u3.heap.size, 6, none⟩ = some (.int .i64 3) := by rw [hV3]; go_simp
  have Q7 : V3.cell? ⟨u3.heap.size, 7, none⟩ = some (.int .i64 3) := by rw [hV3]; go_simp
  have hbq : u3.heap.size < V3.heap.size := cell_lt Q6
  clear HOP hst hS hbsV hbmV hB'
  have HV := Lib.hid hV3; clear hV3
  -- step 4
  have hop := (sapp_any (m := ⟨bs, bt, bm, g3⟩) 7 1 3 0 V3 HST.out (by decide)).mono fun e w' h => h.known HB.out.size (ps := [⟨7, 3, false, 0, [], 0, 3, 3, -1⟩]) (c := 8) (q' := ⟨0, 0, false, 0, [], 0, 0, 0, 0⟩) (by first | rfl | decide) (by first | rfl | decide) rfl (ev := .iface 106 (.agg #[.int .i64 8, .int .i64 0])) rfl
  have HOP := Lib.hid hop; clear hop
  go_wp2_with fail
  refine calls_named fun Y hY => ?_
  rw [← HV.out] at hY
  obtain rfl : V3 = Y := hY.symm
  clear HV
  refine HOP.out.mono ?_
  rintro e u4 ⟨g4, a4, c4, rfl, hst, hgl, hg, hS⟩
  have hbsV : bs < V3.heap.size := cell_lt HST.out.c0
  have hbmV : bm < V3.heap.size := by obtain ⟨rvs', hm, _⟩ := HST.out.map; exact hm.lt
  have hB' : Below w.heap.size w u4 := HB.out.trans (hS.below HB.out.size fun b hb => HST.out.off hb)
  have hszS := hS.size
  replace hgl := hgl (by decide)
  have P6 : u4.cell? ⟨u0.heap.size, 6, none⟩ = some (.int .i64 1) := hS.cell HPO.out P6
  have P7 : u4.cell? ⟨u0.heap.size, 7, none⟩ = some (.int .i64 (-1)) := hS.cell HPO.out P7
  have HPO : Hid (Off ⟨bs, bt, bm, g4⟩ u0.heap.size) := Off.next HPO.out hbp hg
  have Q6 : u4.cell? ⟨u3.heap.size, 6, none⟩ = some (.int .i64 3) := hS.cell HQO.out Q6
  have Q7 : u4.cell? ⟨u3.heap.size, 7, none⟩ = some (.int .i64 3) := hS.cell HQO.out Q7
  have HQO : Hid (Off ⟨bs, bt, bm, g4⟩ u3.heap.size) := Off.next HQO.out hbq hg
  have HB : Hid (Below w.heap.size w (u4.alloc (.cells #[.int .i64 0, .int .i64 0, .bool false, .int .i64 0, .slice a4 0 c4, .int .i64 0, .int .i64 0, .int .i64 (0), .int .i64 (0)] 65))) := hB'.alloc hB'.size _
  have HST : Hid (StoreAt ⟨bs, bt, bm, g4⟩ w.heap.size (fun b => w.heap.size ≤ b) (u4.alloc (.cells #[.int .i64 0, .int .i64 0, .bool false, .int .i64 0, .slice a4 0 c4, .int .i64 0, .int .i64 0, .int .i64 (0), .int .i64 (0)] 65)) 1 [⟨7, 3, false, 0, [], 0, 3, 3, -1⟩]) := StoreAt.below (m := ⟨bs, bt, bm, g4⟩) hst ((Below.refl _ _).alloc (Nat.le_refl _) _)
  obtain ⟨V4, hV4⟩ : ∃ V4, V4 = (u4.alloc (.cells #[.int .i64 0, .int .i64 0, .bool false, .int .i64 0, .slice a4 0 c4, .int .i64 0, .int .i64 0, .int .i64 (0), .int .i64 (0)] 65)) := ⟨_, rfl⟩
  rw [← hV4] at HB HST
  have P6 : V4.cell? ⟨u0.heap.size, 6, none⟩ = some (.int .i64 1) := by rw [hV4]; exact keepl ((Below.refl _ _).alloc (Nat.le_refl _) _) P6
  have P7 : V4.cell? ⟨u0.heap.size, 7, none⟩ = some (.int .i64 (-1)) := by rw [hV4]; exact keepl ((Below.refl _ _).alloc (Nat.le_refl _) _) P7
  have hbp : u0.heap.size < V4.heap.size := cell_lt P6
  have Q6 : V4.cell? ⟨u3.heap.size, 6, none⟩ = some (.int .i64 3) := by rw [hV4]; exact keepl ((Below.refl _ _).alloc (Nat.le_refl _) _) Q6
  have Q7 : V4.cell? ⟨u3.heap.size, 7, none⟩ = some (.int .i64 3) := by rw [hV4]; exact keepl ((Below.refl _ _).alloc (Nat.le_refl _) _) Q7
  have hbq : u3.heap.size < V4.heap.size := cell_lt Q6
  clear HOP hst hS hbsV hbmV hB'
  have HV := Lib.hid hV4; clear hV4
  -- step 5
  have hop := (sapp_any (m := ⟨bs, bt, bm, g4⟩) 8 1 3 0 V4 HST.out (by decide)).mono fun e w' h => h.known HB.out.size (ps := [⟨7, 3, false, 0, [], 0, 3, 3, -1⟩]) (c := 5) (q' := ⟨0, 0, false, 0, [], 0, 0, 0, 0⟩) (by first | rfl | decide) (by first | rfl | decide) rfl (ev := .iface 106 (.agg #[.int .i64 5, .int .i64 0])) rfl
  have HOP := Lib.hid hop; clear hop
  go_wp2_with fail
  refine calls_named fun Y hY => ?_
  rw [← HV.out] at hY
  obtain rfl : V4 = Y := hY.symm
  clear HV
  refine HOP.out.mono ?_
  rintro e u5 ⟨g5, a5, c5, rfl, hst, hgl, hg, hS⟩
  have hbsV : bs < V4.heap.size := cell_lt HST.out.c0
  have hbmV : bm < V4.heap.size := by obtain ⟨rvs', hm, _⟩ := HST.out.map; exact hm.lt
  have hB' : Below w.heap.size w u5 := HB.out.trans (hS.below HB.out.size fun b hb => HST.out.off hb)
  have hszS := hS.size
  replace hgl := hgl (by decide)
  have P6 : u5.cell? ⟨u0.heap.size, 6, none⟩ = some (.int .i64 1) := hS.cell HPO.out P6
  have P7 : u5.cell? ⟨u0.heap.size, 7, none⟩ = some (.int .i64 (-1)) := hS.cell HPO.out P7
  have HPO : Hid (Off ⟨bs, bt, bm, g5⟩ u0.heap.size) := Off.next HPO.out hbp hg
  have Q6 : u5.cell? ⟨u3.heap.size, 6, none⟩ = some (.int .i64 3) := hS.cell HQO.out Q6
  have Q7 : u5.cell? ⟨u3.heap.size, 7, none⟩ = some (.int .i64 3) := hS.cell HQO.out Q7
  have HQO : Hid (Off ⟨bs, bt, bm, g5⟩ u3.heap.size) := Off.next HQO.out hbq hg
  have HB : Hid (Below w.heap.size w (u5.alloc (.cells #[.int .i64 0, .int .i64 0, .bool false, .int .i64 0, .slice a5 0 c5, .int .i64 0, .int .i64 0, .int .i64 (0), .int .i64 (0)] 65))) := hB'.alloc hB'.size _
  have HST : Hid (StoreAt ⟨bs, bt, bm, g5⟩ w.heap.size (fun b => w.heap.size ≤ b) (u5.alloc (.cells #[.int .i64 0, .int .i64 0, .bool false, .int .i64 0, .slice a5 0 c5, .int .i64 0, .int .i64 0, .int .i64 (0), .int .i64 (0)] 65)) 1 [⟨7, 3, false, 0, [], 0, 3, 3, -1⟩]) := StoreAt.below (m := ⟨bs, bt, bm, g5⟩) hst ((Below.refl _ _).alloc (Nat.le_refl _) _)
  obtain ⟨V5, hV5⟩ : ∃ V5, V5 = (u5.alloc (.cells #[.int .i64 0, .int .i64 0, .bool false, .int .i64 0, .slice a5 0 c5, .int .i64 0, .int .i64 0, .int .i64 (0), .int .i64 (0)] 65)) := ⟨_, rfl⟩
  rw [← hV5] at HB HST
  have P6 : V5.cell? ⟨u0.heap.size, 6, none⟩ = some (.int .i64 1) := by rw [hV5]; exact keepl ((Below.refl _ _).alloc (Nat.le_refl _) _) P6
  have P7 : V5.cell? ⟨u0.heap.size, 7, none⟩ = some (.int .i64 (-1)) := by rw [hV5]; exact keepl ((Below.refl _ _).alloc (Nat.le_refl _) _) P7
  have hbp : u0.heap.size < V5.heap.size := cell_lt P6
  have Q6 : V5.cell? ⟨u3.heap.size, 6, none⟩ = some (.int .i64 3) := by rw [hV5]; exact keepl ((Below.refl _ _).alloc (Nat.le_refl _) _) Q6
  have Q7 : V5.cell? ⟨u3.heap.size, 7, none⟩ = some (.int .i64 3) := by rw [hV5]; exact keepl ((Below.refl _ _).alloc (Nat.le_refl _) _) Q7
  have hbq : u3.heap.size < V5.heap.size := cell_lt Q6
  clear HOP hst hS hbsV hbmV hB'
  have HV := Lib.hid hV5; clear hV5
  -- the nil store
  go_wp2_with fail
  refine calls_named fun Y hY => ?_
  rw [← HV.out] at hY
  obtain rfl : V5 = Y := hY.symm
  clear HV
  refine (HNil.out _).mono ?_
  rintro e u6 ⟨rfl, hb6⟩
  have HB : Hid (Below w.heap.size w u6) := HB.out.trans (hb6.mono HB.out.size)
  have HST : Hid (StoreAt ⟨bs, bt, bm, g5⟩ w.heap.size (fun b => w.heap.size ≤ b) u6 1 [⟨7, 3, false, 0, [], 0, 3, 3, -1⟩]) := StoreAt.below (m := ⟨bs, bt, bm, g5⟩) HST.out hb6
  have P6 := keepl hb6 P6
  have P7 := keepl hb6 P7
  have Q6 := keepl hb6 Q6
  have Q7 := keepl hb6 Q7
  have hbp := cell_lt P6
  have hbq := cell_lt Q6
  clear hb6
  have HC : Hid (∀ (c : Int) (W : World), ErrType W → Calls Tryd.prog 102 #[.iface 106 (.agg #[.int .i64 c, .int .i64 0])] W fun r w' => r = .returned (.int .i64 c) ∧ Below W.heap.size W w') := fun c W hW => code13_any (some (.fault c 0)) W hW
  have HOn : Hid (∀ (W : World), StoreAt ⟨bs, bt, bm, g5⟩ w.heap.size (fun b => w.heap.size ≤ b) W 1 [⟨7, 3, false, 0, [], 0, 3, 3, -1⟩] → Calls Tryd.prog 68 #[.pointer (some ⟨bs, 0, none⟩), .int .i64 3] W fun e w' => ∃ a c, e = .returned (.slice a 1 c) ∧ Below W.heap.size W w') := fun W hW =>
    (son_any (m := ⟨bs, bt, bm, g5⟩) 3 W hW ok13).mono fun e w' h => by
      obtain ⟨v, rfl, h1, h2⟩ := h
      obtain ⟨a, c, rfl⟩ := h1.shape
      exact ⟨a, c, rfl, h2⟩
  have HCt : Hid (∀ (W : World), StoreAt ⟨bs, bt, bm, g5⟩ w.heap.size (fun b => w.heap.size ≤ b) W 1 [⟨7, 3, false, 0, [], 0, 3, 3, -1⟩] → Calls Tryd.prog 72 #[.pointer (some ⟨bs, 0, none⟩), .int .i64 3] W fun e w' => e = .returned (.int .i64 1) ∧ Below W.heap.size W w') := fun W hW => scount_any (m := ⟨bs, bt, bm, g5⟩) 3 W hW ok13
  have HLn : Hid (∀ (W : World), StoreAt ⟨bs, bt, bm, g5⟩ w.heap.size (fun b => w.heap.size ≤ b) W 1 [⟨7, 3, false, 0, [], 0, 3, 3, -1⟩] → Calls Tryd.prog 64 #[.pointer (some ⟨bs, 0, none⟩)] W fun e w' => e = .returned (.int .i64 1) ∧ W = w') := fun W hW => slen_any (m := ⟨bs, bt, bm, g5⟩) W hW
  have HAl := Lib.hid sall_nil
  go_wp2_with fail
  refine calls_named fun Y hY => ?_
  have hb7 : Below u6.heap.size u6 Y := by rw [hY]; exact (Below.refl _ _).alloc (Nat.le_refl _) _
  clear hY HPO HQO
  have HST := Lib.hid (StoreAt.below (m := ⟨bs, bt, bm, g5⟩) HST.out hb7)
  have HB := Lib.hid (HB.out.trans (hb7.mono HB.out.size))
  have P6 := keepl hb7 P6
  have P7 := keepl hb7 P7
  have Q6 := keepl hb7 Q6
  have Q7 := keepl hb7 Q7
  clear hb7
  refine (HC.out 6 _ (HE.out.below HB.out)).mono ?_
  rintro e u7 ⟨rfl, hb⟩
  have HST := Lib.hid (StoreAt.below (m := ⟨bs, bt, bm, g5⟩) HST.out hb)
  have HB := Lib.hid (HB.out.trans (hb.mono HB.out.size))
  have P6 := keepl hb P6
  have P7 := keepl hb P7
  have Q6 := keepl hb Q6
  have Q7 := keepl hb Q7
  clear hb
  go_wp2_with fail
  refine (HC.out 7 _ (HE.out.below HB.out)).mono ?_
  rintro e u8 ⟨rfl, hb⟩
  have HST := Lib.hid (StoreAt.below (m := ⟨bs, bt, bm, g5⟩) HST.out hb)
  have HB := Lib.hid (HB.out.trans (hb.mono HB.out.size))
  have P6 := keepl hb P6
  have P7 := keepl hb P7
  have Q6 := keepl hb Q6
  have Q7 := keepl hb Q7
  clear hb
  go_wp2_with fail
  refine (HC.out 8 _ (HE.out.below HB.out)).mono ?_
  rintro e u9 ⟨rfl, hb⟩
  have HST := Lib.hid (StoreAt.below (m := ⟨bs, bt, bm, g5⟩) HST.out hb)
  have HB := Lib.hid (HB.out.trans (hb.mono HB.out.size))
  clear hb
  go_wp2_with fail
  refine (HC.out 5 _ (HE.out.below HB.out)).mono ?_
  rintro e u10 ⟨rfl, hb⟩
  have HST := Lib.hid (StoreAt.below (m := ⟨bs, bt, bm, g5⟩) HST.out hb)
  have HB := Lib.hid (HB.out.trans (hb.mono HB.out.size))
  clear hb
  go_wp2_with fail
  refine (HC.out 5 _ (HE.out.below HB.out)).mono ?_
  rintro e u11 ⟨rfl, hb⟩
  have HST := Lib.hid (StoreAt.below (m := ⟨bs, bt, bm, g5⟩) HST.out hb)
  have HB := Lib.hid (HB.out.trans (hb.mono HB.out.size))
  clear hb
  go_wp2_with fail
  refine (HOn.out _ HST.out).mono ?_
  rintro e u12 ⟨aa, cc, rfl, hb⟩
  have HST := Lib.hid (StoreAt.below (m := ⟨bs, bt, bm, g5⟩) HST.out hb)
  have HB := Lib.hid (HB.out.trans (hb.mono HB.out.size))
  clear hb
  go_wp2_with fail
  refine (HCt.out _ HST.out).mono ?_
  rintro e u13 ⟨rfl, hb⟩
  have HST := Lib.hid (StoreAt.below (m := ⟨bs, bt, bm, g5⟩) HST.out hb)
  have HB := Lib.hid (HB.out.trans (hb.mono HB.out.size))
  clear hb
  go_wp2_with fail
  refine (HLn.out _ HST.out).mono ?_
  rintro e x ⟨rfl, rfl⟩
  go_wp2_with fail
  refine (HAl.out _).mono ?_
  rintro e u14 ⟨rfl, hb⟩
  have HST := Lib.hid (StoreAt.below (m := ⟨bs, bt, bm, g5⟩) HST.out hb)
  have HB := Lib.hid (HB.out.trans (hb.mono HB.out.size))
  clear hb
  go_wp2
  go_ret
  exact ⟨rfl, HB.out⟩
end Go.Proofs.YtcegipkhmibdeaaDoor
/- hammocklaw13.play: an operation on a store and on a list. -/
namespace Go.Proofs.YtcegipkhmibdeaaDoor
set_option linter.all false
open Go.RowKit

/-- What play leaves, where the results are the same. -/
def PlayOk (m : Mem) (B : Nat) (size : Int) (ps : List Pod) (w : World) (e : Ending) (w' : World) : Prop :=
  ∃ v' g', e = .returned (.tuple #[v', .bool true]) ∧ StoreAt { m with gi := g' } B (fun b => B ≤ b) w' size ps ∧ PodsX (Off { m with gi := g' }) w' v' ps ∧ (g' = m.gi ∨ w.heap.size ≤ g') ∧ g' < w'.heap.size ∧ Stays (Off m) w w'
theorem StoreAt.memLt {m : Mem} {B : Nat} {X : Nat → Prop} {w : World} {size : Int} {ps : List Pod} (h : StoreAt m B X w size ps) : m.bs < w.heap.size ∧ m.bt < w.heap.size ∧ m.bm < w.heap.size := by
  refine ⟨cell_lt h.c0, cell_lt h.t0, ?_⟩
  obtain ⟨rvs', hm, _⟩ := h.map; exact hm.lt
theorem PodsX.get {X : Nat → Prop} {w : World} {v : Value} {ps : List Pod} (h : PodsX X w v ps) {k : Nat} (hk : k < ps.length) : ∃ b off cap rv, v = .slice (some ⟨b, off, none⟩) ps.length cap ∧ b < w.heap.size ∧ PodCells w b (off + k * 9) (podAt ps k) rv ∧ IntsAt w rv (podAt ps k).req := by
  obtain ⟨a, cap, rfl, h | ⟨b, off, rfl, hX, hlt, hc⟩⟩ := h
  · subst h; simp at hk
  · obtain ⟨rv, h1, h2⟩ := hc k hk
    exact ⟨b, off, cap, rv, rfl, hlt, h1, h2.ints⟩

set_option maxHeartbeats 8000000 in
set_option maxRecDepth 100000 in
theorem play_s0 {bs bt bm gi B : Nat} {size : Int} {ps qs : List Pod} {q : Pod} (n c : Int) (o : Op13) (al a : Option Addr) (lp cl n1 c1 lq lqs : Nat) (w : World) (hev : (o.ev == 0) = true) (hst : StoreAt ⟨bs, bt, bm, gi⟩ B (fun b => B ≤ b) w size ps) (hgi : gi < w.heap.size) (hl : PodsX (Off ⟨bs, bt, bm, gi⟩) w (.slice al lp cl) ps) (hi : IntsIn (Off ⟨bs, bt, bm, gi⟩) w (.slice a n1 c1) o.pod.req) (hE : ErrType w) (hEB : 3 < B)
    (hx : qs.length * 88 ≤ 140737488351232) (hlqs : lqs = qs.length) (hlq : lq = q.req.length) (hzq : q.req.length * 8 ≤ 140737488351232) {kf : Nat} (hkf : findI qs 0 o.pod.id = (kf : Int)) (hpk : podAt qs kf = q) (hkl : kf < qs.length)
    (hop : ∀ V, Below w.heap.size w V → StoreAt ⟨bs, bt, bm, gi⟩ B (fun b => B ≤ b ∧ b < w.heap.size) V size ps → IntsAt V (.slice a n1 c1) o.pod.req → Calls Tryd.prog 56 #[.pointer (some ⟨bs, 0, none⟩), .agg #[.int .i64 o.pod.id, .int .i64 o.pod.prio, .bool o.pod.pre, .int .i64 o.pod.grace, .slice a n1 c1, .int .i64 o.pod.arr, .int .i64 o.pod.ph, .int .i64 o.pod.node, .int .i64 o.pod.dead]] V fun e w' => ∃ g' a5 c5, e = .returned (.tuple #[podV q (.slice a5 lq c5), .nilIface]) ∧ StoreAt ⟨bs, bt, bm, g'⟩ B (fun b => B ≤ b ∧ (b < w.heap.size ∨ V.heap.size ≤ b)) w' size qs ∧ (g' = gi ∨ V.heap.size ≤ g') ∧ (gi < V.heap.size → g' < w'.heap.size) ∧ Stays (Off ⟨bs, bt, bm, gi⟩) V w' ∧ IntsIn (fun b => V.heap.size ≤ b) w' (.slice a5 lq c5) q.req)
    (href : ∀ g U, PodsX (Off ⟨bs, bt, bm, g⟩) U (.slice al lp cl) ps → IntsIn (Off ⟨bs, bt, bm, g⟩) U (.slice a n1 c1) o.pod.req → Calls Tryd.prog 59 #[.slice al lp cl, .int .i64 n, .agg #[.int .i64 o.pod.id, .int .i64 o.pod.prio, .bool o.pod.pre, .int .i64 o.pod.grace, .slice a n1 c1, .int .i64 o.pod.arr, .int .i64 o.pod.ph, .int .i64 o.pod.node, .int .i64 o.pod.dead]] U fun e w' => ∃ a' c', e = .returned (.tuple #[.slice a' lqs c', .int .i64 0]) ∧ PodsX (fun b => Off ⟨bs, bt, bm, g⟩ b ∨ U.heap.size ≤ b) w' (.slice a' lqs c') qs ∧ Below U.heap.size U w') :
    Calls Tryd.prog 65 #[.pointer (some ⟨bs, 0, none⟩), .slice al lp cl, .int .i64 n, op13V o (.slice a n1 c1)] w (PlayOk ⟨bs, bt, bm, gi⟩ B size qs w) := by
  obtain ⟨V0, hV0⟩ : ∃ V0, V0 = (w.alloc (.cells #[.int .i64 o.ev, .int .i64 o.pod.id, .int .i64 o.pod.prio, .bool o.pod.pre, .int .i64 o.pod.grace, .slice a n1 c1, .int .i64 o.pod.arr, .int .i64 o.pod.ph, .int .i64 o.pod.node, .int .i64 o.pod.dead, .int .i64 o.node, .int .i64 o.dead] 67)).alloc (.cells z9 65) := ⟨_, rfl⟩
  have hbV : Below w.heap.size w V0 := by rw [hV0]; exact ((Below.refl _ w).alloc (Nat.le_refl _) _).alloc (by simp) _
  have hst0 := hst.within.below hbV
  have hiV : IntsIn (Lo (Off ⟨bs, bt, bm, gi⟩) w.heap.size) V0 (.slice a n1 c1) o.pod.req := hi.within.below hbV (Nat.le_refl _)
  have hlV : PodsX (Lo (Off ⟨bs, bt, bm, gi⟩) w.heap.size) V0 (.slice al lp cl) ps := hl.within.below hbV (Nat.le_refl _)
  obtain ⟨k1, k2, k3⟩ := hst.memLt
  change bs < _ at k1
  change bt < _ at k2
  change bm < _ at k3
  have hsV : V0.heap.size = w.heap.size + 2 := by rw [hV0]; simp
  have HOP := Lib.hid (hop V0 hbV hst0 hiV.ints)
  have HREF := Lib.hid href
  have HI := Lib.hid hiV
  have HLV := Lib.hid hlV
  have HE := Lib.hid (hE.below hbV)
  have HST := Lib.hid hst0
  have HBV := Lib.hid hbV
  have x0 : V0.cell? ⟨w.heap.size, 0, none⟩ = some (.int .i64 o.ev) := by rw [hV0]; go_simp
  have x1 : V0.cell? ⟨w.heap.size, 1, none⟩ = some (.int .i64 o.pod.id) := by rw [hV0]; go_simp
  have x2 : V0.cell? ⟨w.heap.size, 2, none⟩ = some (.int .i64 o.pod.prio) := by rw [hV0]; go_simp
  have x3 : V0.cell? ⟨w.heap.size, 3, none⟩ = some (.bool o.pod.pre) := by rw [hV0]; go_simp
  have x4 : V0.cell? ⟨w.heap.size, 4, none⟩ = some (.int .i64 o.pod.grace) := by rw [hV0]; go_simp
  have x5 : V0.cell? ⟨w.heap.size, 5, none⟩ = some (.slice a n1 c1) := by rw [hV0]; go_simp
  have x6 : V0.cell? ⟨w.heap.size, 6, none⟩ = some (.int .i64 o.pod.arr) := by rw [hV0]; go_simp
  have x7 : V0.cell? ⟨w.heap.size, 7, none⟩ = some (.int .i64 o.pod.ph) := by rw [hV0]; go_simp
  have x8 : V0.cell? ⟨w.heap.size, 8, none⟩ = some (.int .i64 o.pod.node) := by rw [hV0]; go_simp
  have x9 : V0.cell? ⟨w.heap.size, 9, none⟩ = some (.int .i64 o.pod.dead) := by rw [hV0]; go_simp
  have x10 : V0.cell? ⟨w.heap.size, 10, none⟩ = some (.int .i64 o.node) := by rw [hV0]; go_simp
  have x11 : V0.cell? ⟨w.heap.size, 11, none⟩ = some (.int .i64 o.dead) := by rw [hV0]; go_simp
  have y0 : V0.cell? ⟨w.heap.size + 1, 0, none⟩ = some (.int .i64 0) := by rw [hV0]; go_simp
  have y1 : V0.cell? ⟨w.heap.size + 1, 1, none⟩ = some (.int .i64 0) := by rw [hV0]; go_simp
  have y2 : V0.cell? ⟨w.heap.size + 1, 2, none⟩ = some (.bool false) := by rw [hV0]; go_simp
  have y3 : V0.cell? ⟨w.heap.size + 1, 3, none⟩ = some (.int .i64 0) := by rw [hV0]; go_simp
  have y4 : V0.cell? ⟨w.heap.size + 1, 4, none⟩ = some (.slice none 0 0) := by rw [hV0]; go_simp
  have y5 : V0.cell? ⟨w.heap.size + 1, 5, none⟩ = some (.int .i64 0) := by rw [hV0]; go_simp
  have y6 : V0.cell? ⟨w.heap.size + 1, 6, none⟩ = some (.int .i64 0) := by rw [hV0]; go_simp
  have y7 : V0.cell? ⟨w.heap.size + 1, 7, none⟩ = some (.int .i64 0) := by rw [hV0]; go_simp
  have y8 : V0.cell? ⟨w.heap.size + 1, 8, none⟩ = some (.int .i64 0) := by rw [hV0]; go_simp
  have yf : ∀ f, V0.frozen? ⟨w.heap.size + 1, f, none⟩ = false := fun f => by rw [hV0]; go_simp
  have HV := Lib.hid hV0
  have HX := Lib.hid hx
  have HZQ := Lib.hid hzq
  have HLQ := Lib.hid hlq
  have HLQS := Lib.hid hlqs
  have HKF := Lib.hid hkf
  have HPK := Lib.hid hpk
  have HKL := Lib.hid hkl
  clear hkf hpk hkl
  clear hop href hst hl hi hE hbV hst0 hiV hlV hV0 hx hzq hlq hlqs
  go_enter Tryd.func65, Tryd.ntmps65
  go_wp2_with fail
  refine calls_named fun Y hY => ?_
  rw [← HV.out] at hY
  obtain rfl : V0 = Y := hY.symm
  clear HV hY
  refine HOP.out.mono ?_
  rintro e u1 ⟨g1, a5, c5, rfl, hst, hg, hgl, hS, hiq⟩
  have hszS := hS.size
  have of0 : Off ⟨bs, bt, bm, gi⟩ w.heap.size := ⟨by show w.heap.size ≠ bs; omega, by show w.heap.size ≠ bm; omega, by show w.heap.size ≠ gi; omega⟩
  have of1 : Off ⟨bs, bt, bm, gi⟩ (w.heap.size + 1) := ⟨by show w.heap.size + 1 ≠ bs; omega, by show w.heap.size + 1 ≠ bm; omega, by show w.heap.size + 1 ≠ gi; omega⟩
  replace hgl := hgl (by omega)
  have x0 := hS.cell of0 x0
  have x1 := hS.cell of0 x1
  have x2 := hS.cell of0 x2
  have x3 := hS.cell of0 x3
  have x4 := hS.cell of0 x4
  have x5 := hS.cell of0 x5
  have x6 := hS.cell of0 x6
  have x7 := hS.cell of0 x7
  have x8 := hS.cell of0 x8
  have x9 := hS.cell of0 x9
  have x10 := hS.cell of0 x10
  have x11 := hS.cell of0 x11
  have y0 := hS.cell of1 y0
  have y1 := hS.cell of1 y1
  have y2 := hS.cell of1 y2
  have y3 := hS.cell of1 y3
  have y4 := hS.cell of1 y4
  have y5 := hS.cell of1 y5
  have y6 := hS.cell of1 y6
  have y7 := hS.cell of1 y7
  have y8 := hS.cell of1 y8
  have yf : ∀ f, u1.frozen? ⟨w.heap.size + 1, f, none⟩ = false := fun f => (hS.frozen (by omega) of1).trans (yf f)
  have hE1 : ErrType u1 := hS.cell (HST.out.off hEB) HE.out
  have hsz1 : w.heap.size + 1 < u1.heap.size := by omega
  have HS := Lib.hid hS
  have HST1 := Lib.hid hst
  have HIQ := Lib.hid hiq
  have HE1 := Lib.hid hE1
  clear hS hst hiq hE1 HOP HE
  go_wp2_with fail
  refine calls_named fun U hU => ?_
  have stU : Stays (fun b => b ≠ w.heap.size + 1) u1 U := by rw [hU]; exact Stays.set9 _ _ _ _ _ _ _ _ _ ⟨rfl, rfl, rfl, Nat.le_refl _, fun _ _ _ => rfl⟩ (fun h => h rfl)
  have hsU : U.heap.size = u1.heap.size := by rw [hU]; simp
  have hn0 : w.heap.size ≠ w.heap.size + 1 := by omega
  have x0 := stU.cell hn0 x0
  have x1 := stU.cell hn0 x1
  have x2 := stU.cell hn0 x2
  have x3 := stU.cell hn0 x3
  have x4 := stU.cell hn0 x4
  have x5 := stU.cell hn0 x5
  have x6 := stU.cell hn0 x6
  have x7 := stU.cell hn0 x7
  have x8 := stU.cell hn0 x8
  have x9 := stU.cell hn0 x9
  have x10 := stU.cell hn0 x10
  have x11 := stU.cell hn0 x11
  have z0 : U.cell? ⟨w.heap.size + 1, 0, none⟩ = some (.int .i64 q.id) := by rw [hU]; go_simp
  have z1 : U.cell? ⟨w.heap.size + 1, 1, none⟩ = some (.int .i64 q.prio) := by rw [hU]; go_simp
  have z2 : U.cell? ⟨w.heap.size + 1, 2, none⟩ = some (.bool q.pre) := by rw [hU]; go_simp
  have z3 : U.cell? ⟨w.heap.size + 1, 3, none⟩ = some (.int .i64 q.grace) := by rw [hU]; go_simp
  have z4 : U.cell? ⟨w.heap.size + 1, 4, none⟩ = some (.slice a5 lq c5) := by rw [hU]; go_simp
  have z5 : U.cell? ⟨w.heap.size + 1, 5, none⟩ = some (.int .i64 q.arr) := by rw [hU]; go_simp
  have z6 : U.cell? ⟨w.heap.size + 1, 6, none⟩ = some (.int .i64 q.ph) := by rw [hU]; go_simp
  have z7 : U.cell? ⟨w.heap.size + 1, 7, none⟩ = some (.int .i64 q.node) := by rw [hU]; go_simp
  have z8 : U.cell? ⟨w.heap.size + 1, 8, none⟩ = some (.int .i64 q.dead) := by rw [hU]; go_simp
  have HE2 : Hid (ErrType U) := stU.cell (by have := HST.out.bs; show 3 ≠ _; change B ≤ bs at this; omega) HE1.out
  have HST2 : Hid (StoreAt ⟨bs, bt, bm, g1⟩ B (fun b => B ≤ b ∧ (b < w.heap.size ∨ V0.heap.size ≤ b)) U size qs) :=
    HST1.out.stays stU (by show bs ≠ _; omega) (by show bt ≠ _; omega) (by show bm ≠ _; omega) (fun _ => by show g1 ≠ _; omega) (fun b _ hb => by show b ≠ _; omega)
  have HIQ2 : Hid (IntsIn (fun b => V0.heap.size ≤ b) U (.slice a5 lq c5) q.req) := HIQ.out.stays stU fun b _ hb => by show b ≠ _; omega
  have hoff : ∀ b, b < V0.heap.size → Off ⟨bs, bt, bm, gi⟩ b → Off ⟨bs, bt, bm, g1⟩ b := fun b hb h => Off.next h hb hg
  have HLV2 : Hid (PodsX (Off ⟨bs, bt, bm, g1⟩) U (.slice al lp cl) ps) := ((HLV.out.stays HS.out fun b _ hb => hb.1).stays stU fun b _ hb => by have := hb.2; show b ≠ _; omega).imp fun b _ hb => hoff b (by have := hb.2; omega) hb.1
  have HI2 : Hid (IntsIn (Off ⟨bs, bt, bm, g1⟩) U (.slice a n1 c1) o.pod.req) := ((HI.out.stays HS.out fun b _ hb => hb.1).stays stU fun b _ hb => by have := hb.2; show b ≠ _; omega).imp fun b _ hb => hoff b (by have := hb.2; omega) hb.1
  have HSU : Hid (Stays (Off ⟨bs, bt, bm, gi⟩) w U) := Stays.imp (X := fun b => Off ⟨bs, bt, bm, gi⟩ b ∧ b < w.heap.size) (((Stays.of HBV.out).trans (HS.out.imp fun b _ h => h.1)).trans (stU.imp fun b _ h => by have := h.2; show b ≠ _; omega)) fun b hb h => ⟨h, hb⟩
  clear hU
  clear yf y0 y1 y2 y3 y4 y5 y6 y7 y8 HE1 HST1 HIQ HLV HI
  refine (HREF.out g1 U HLV2.out HI2.out).mono ?_
  rintro e u2 ⟨a6, c6, rfl, hl2, hb2⟩
  have hb2s := hb2.size
  have x1 := keepl hb2 x1
  have z0 := keepl hb2 z0
  have z1 := keepl hb2 z1
  have z2 := keepl hb2 z2
  have z3 := keepl hb2 z3
  have z4 := keepl hb2 z4
  have z5 := keepl hb2 z5
  have z6 := keepl hb2 z6
  have z7 := keepl hb2 z7
  have z8 := keepl hb2 z8
  have HE3 := Lib.hid (HE2.out.below hb2)
  have HST3 := Lib.hid (StoreAt.below HST2.out hb2)
  have HIQ3 : Hid (IntsAt u2 (.slice a5 lq c5) q.req) := HIQ2.out.ints.below hb2
  have HL2 := Lib.hid hl2
  have HB2 := Lib.hid hb2
  have hwu : w.heap.size + 1 < u2.heap.size := by omega
  have hwu0 : w.heap.size < u2.heap.size := by omega
  clear x0 x2 x3 x4 x5 x6 x7 x8 x9 x10 x11 HE2 HST2 HIQ2 HLV2 HI2 HREF
  obtain ⟨bq, oq, capq, rvq, hv, hbq, hcl, hint⟩ := hl2.get HKL.out
  rw [← HLQS.out] at hv
  injection hv with hv1 _ hv3
  subst hv1
  subst hv3
  rw [HPK.out] at hcl hint
  obtain ⟨ar, cr, rfl, -⟩ := id hint
  rw [← HLQ.out] at hcl hint
  obtain ⟨d0, d1, d2, d3, d4, d5, d6, d7, d8⟩ := hcl
  have HF : Hid (∀ W, Below u2.heap.size u2 W → Calls Tryd.prog 66 #[.slice (some ⟨bq, oq, none⟩) lqs c6, .int .i64 o.pod.id] W fun e w' => e = .returned (.int .i64 (kf : Int)) ∧ W = w') := fun W hW => by
    have h := find_any (.slice (some ⟨bq, oq, none⟩) lqs c6) qs o.pod.id W (by have := HX.out; omega) (hl2.pods.below hW)
    rw [HKF.out] at h
    exact h
  have hk0 : (0 : Int) ≤ (kf : Int) := by omega
  have hk1 : (kf : Int) < (lqs : Int) := by have := HKL.out; rw [← HLQS.out] at this; omega
  have HINT := Lib.hid hint
  clear hb2 hl2 hint
  go_wp2_with fail
  refine (HF.out _ ((Below.refl _ _).alloc (Nat.le_refl _) _)).mono ?_
  rintro e u3 ⟨rfl, rfl⟩
  go_wp2_with fail
  refine calls_named fun X3 hX3 => ?_
  have hb3 : Below u2.heap.size u2 X3 := by rw [hX3]; exact (Below.refl _ _).alloc (Nat.le_refl _) _
  have z0 := keepl hb3 z0
  have z1 := keepl hb3 z1
  have z2 := keepl hb3 z2
  have z3 := keepl hb3 z3
  have z4 := keepl hb3 z4
  have z5 := keepl hb3 z5
  have z6 := keepl hb3 z6
  have z7 := keepl hb3 z7
  have z8 := keepl hb3 z8
  have t0 : X3.cell? ⟨u2.heap.size, 0, none⟩ = some (.int .i64 q.id) := by rw [hX3]; go_simp
  have t1 : X3.cell? ⟨u2.heap.size, 1, none⟩ = some (.int .i64 q.prio) := by rw [hX3]; go_simp
  have t2 : X3.cell? ⟨u2.heap.size, 2, none⟩ = some (.bool q.pre) := by rw [hX3]; go_simp
  have t3 : X3.cell? ⟨u2.heap.size, 3, none⟩ = some (.int .i64 q.grace) := by rw [hX3]; go_simp
  have t4 : X3.cell? ⟨u2.heap.size, 4, none⟩ = some (.slice ar lq cr) := by rw [hX3]; go_simp
  have t5 : X3.cell? ⟨u2.heap.size, 5, none⟩ = some (.int .i64 q.arr) := by rw [hX3]; go_simp
  have t6 : X3.cell? ⟨u2.heap.size, 6, none⟩ = some (.int .i64 q.ph) := by rw [hX3]; go_simp
  have t7 : X3.cell? ⟨u2.heap.size, 7, none⟩ = some (.int .i64 q.node) := by rw [hX3]; go_simp
  have t8 : X3.cell? ⟨u2.heap.size, 8, none⟩ = some (.int .i64 q.dead) := by rw [hX3]; go_simp
  have HE4 := Lib.hid (HE3.out.below hb3)
  have hAt : ∀ W, ErrType W → Calls Tryd.prog 76 #[.nilIface] W fun r w' => r = .returned (.tuple #[.int .i64 0, .bool false]) ∧ Below W.heap.size W w' := fun W hW => faultAt_any none W hW
  have hCd : ∀ W, ErrType W → Calls Tryd.prog 102 #[.nilIface] W fun r w' => r = .returned (.int .i64 0) ∧ Below W.heap.size W w' := fun W hW => code13_any none W hW
  have hSm : ∀ W, Below u2.heap.size u2 W → Calls Tryd.prog 67 #[.agg #[.int .i64 q.id, .int .i64 q.prio, .bool q.pre, .int .i64 q.grace, .slice a5 lq c5, .int .i64 q.arr, .int .i64 q.ph, .int .i64 q.node, .int .i64 q.dead], .agg #[.int .i64 q.id, .int .i64 q.prio, .bool q.pre, .int .i64 q.grace, .slice ar lq cr, .int .i64 q.arr, .int .i64 q.ph, .int .i64 q.node, .int .i64 q.dead]] W fun e w' => e = .returned (.bool true) ∧ Below W.heap.size W w' := fun W hW => by
    have h := samePod_any q q (.slice a5 lq c5) (.slice ar lq cr) W HZQ.out HZQ.out (HIQ3.out.below hW) (HINT.out.below hW)
    rw [decide_eq_true rfl] at h
    exact h
  have HAt := Lib.hid hAt; clear hAt
  have HCd := Lib.hid hCd; clear hCd
  have HSm := Lib.hid hSm; clear hSm
  have HB3 := Lib.hid hb3
  clear hX3 hb3 HE3
  refine (HAt.out _ HE4.out).mono ?_
  rintro e X4 ⟨rfl, hb4⟩
  have z0 := keepl hb4 z0
  have z1 := keepl hb4 z1
  have z2 := keepl hb4 z2
  have z3 := keepl hb4 z3
  have z4 := keepl hb4 z4
  have z5 := keepl hb4 z5
  have z6 := keepl hb4 z6
  have z7 := keepl hb4 z7
  have z8 := keepl hb4 z8
  have t0 := keepl hb4 t0
  have t1 := keepl hb4 t1
  have t2 := keepl hb4 t2
  have t3 := keepl hb4 t3
  have t4 := keepl hb4 t4
  have t5 := keepl hb4 t5
  have t6 := keepl hb4 t6
  have t7 := keepl hb4 t7
  have t8 := keepl hb4 t8
  have HE5 := Lib.hid (HE4.out.below hb4)
  have HB4 := Lib.hid (HB3.out.trans (hb4.mono HB3.out.size))
  clear hb4 HB3 HE4
  go_wp2_with fail
  refine (HCd.out _ HE5.out).mono ?_
  rintro e X5 ⟨rfl, hb5⟩
  have z0 := keepl hb5 z0
  have z1 := keepl hb5 z1
  have z2 := keepl hb5 z2
  have z3 := keepl hb5 z3
  have z4 := keepl hb5 z4
  have z5 := keepl hb5 z5
  have z6 := keepl hb5 z6
  have z7 := keepl hb5 z7
  have z8 := keepl hb5 z8
  have t0 := keepl hb5 t0
  have t1 := keepl hb5 t1
  have t2 := keepl hb5 t2
  have t3 := keepl hb5 t3
  have t4 := keepl hb5 t4
  have t5 := keepl hb5 t5
  have t6 := keepl hb5 t6
  have t7 := keepl hb5 t7
  have t8 := keepl hb5 t8
  have HB5 := Lib.hid (HB4.out.trans (hb5.mono HB4.out.size))
  clear hb5 HB4 HE5
  go_wp2_with fail
  refine (HSm.out _ HB5.out).mono ?_
  rintro e X6 ⟨rfl, hb6⟩
  have HB6 := Lib.hid (HB5.out.trans (hb6.mono HB5.out.size))
  clear hb6
  go_wp2
  go_ret2
  have hz6 := HB6.out.size
  refine ⟨_, g1, rfl, (StoreAt.below HST3.out HB6.out).imp fun b _ hb => hb.1, ((HL2.out.within.below HB6.out (Nat.le_refl _)).imp fun b _ hb => ?_), ?_, by omega, ?_⟩
  · rcases hb.1 with h | h
    · exact h
    · exact ⟨by show b ≠ bs; omega, by show b ≠ bm; omega, by show b ≠ g1; omega⟩
  · rcases hg with h | h
    · exact .inl h
    · right; omega
  · exact (HSU.out.trans (Stays.of HB2.out)).trans (Stays.of HB6.out)

set_option maxHeartbeats 8000000 in
set_option maxRecDepth 100000 in
theorem play_sn {bs bt bm gi B : Nat} {size : Int} {ps qs : List Pod} {q : Pod} (n c : Int) (o : Op13) (al a : Option Addr) (lp cl n1 c1 lq lqs : Nat) (w : World) (hev : (o.ev == 0) = true) (hst : StoreAt ⟨bs, bt, bm, gi⟩ B (fun b => B ≤ b) w size ps) (hgi : gi < w.heap.size) (hl : PodsX (Off ⟨bs, bt, bm, gi⟩) w (.slice al lp cl) ps) (hi : IntsIn (Off ⟨bs, bt, bm, gi⟩) w (.slice a n1 c1) o.pod.req) (hE : ErrType w) (hEB : 3 < B)
    (hx : qs.length * 88 ≤ 140737488351232) (hlqs : lqs = qs.length) (hlq : lq = q.req.length) (hzq : q.req.length * 8 ≤ 140737488351232) (hc : (c == 0) = false) (hq : q = ⟨0, 0, false, 0, [], 0, 0, 0, 0⟩)
    (hop : ∀ V, Below w.heap.size w V → StoreAt ⟨bs, bt, bm, gi⟩ B (fun b => B ≤ b ∧ b < w.heap.size) V size ps → IntsAt V (.slice a n1 c1) o.pod.req → Calls Tryd.prog 56 #[.pointer (some ⟨bs, 0, none⟩), .agg #[.int .i64 o.pod.id, .int .i64 o.pod.prio, .bool o.pod.pre, .int .i64 o.pod.grace, .slice a n1 c1, .int .i64 o.pod.arr, .int .i64 o.pod.ph, .int .i64 o.pod.node, .int .i64 o.pod.dead]] V fun e w' => ∃ g' a5 c5, e = .returned (.tuple #[podV q (.slice a5 lq c5), .iface 106 (.agg #[.int .i64 c, .int .i64 0])]) ∧ StoreAt ⟨bs, bt, bm, g'⟩ B (fun b => B ≤ b ∧ (b < w.heap.size ∨ V.heap.size ≤ b)) w' size qs ∧ (g' = gi ∨ V.heap.size ≤ g') ∧ (gi < V.heap.size → g' < w'.heap.size) ∧ Stays (Off ⟨bs, bt, bm, gi⟩) V w' ∧ IntsIn (fun b => V.heap.size ≤ b) w' (.slice a5 lq c5) q.req)
    (href : ∀ g U, PodsX (Off ⟨bs, bt, bm, g⟩) U (.slice al lp cl) ps → IntsIn (Off ⟨bs, bt, bm, g⟩) U (.slice a n1 c1) o.pod.req → Calls Tryd.prog 59 #[.slice al lp cl, .int .i64 n, .agg #[.int .i64 o.pod.id, .int .i64 o.pod.prio, .bool o.pod.pre, .int .i64 o.pod.grace, .slice a n1 c1, .int .i64 o.pod.arr, .int .i64 o.pod.ph, .int .i64 o.pod.node, .int .i64 o.pod.dead]] U fun e w' => ∃ a' c', e = .returned (.tuple #[.slice a' lqs c', .int .i64 c]) ∧ PodsX (fun b => Off ⟨bs, bt, bm, g⟩ b ∨ U.heap.size ≤ b) w' (.slice a' lqs c') qs ∧ Below U.heap.size U w') :
    Calls Tryd.prog 65 #[.pointer (some ⟨bs, 0, none⟩), .slice al lp cl, .int .i64 n, op13V o (.slice a n1 c1)] w (PlayOk ⟨bs, bt, bm, gi⟩ B size qs w) := by
  obtain ⟨V0, hV0⟩ : ∃ V0, V0 = (w.alloc (.cells #[.int .i64 o.ev, .int .i64 o.pod.id, .int .i64 o.pod.prio, .bool o.pod.pre, .int .i64 o.pod.grace, .slice a n1 c1, .int .i64 o.pod.arr, .int .i64 o.pod.ph, .int .i64 o.pod.node, .int .i64 o.pod.dead, .int .i64 o.node, .int .i64 o.dead] 67)).alloc (.cells z9 65) := ⟨_, rfl⟩
  have hbV : Below w.heap.size w V0 := by rw [hV0]; exact ((Below.refl _ w).alloc (Nat.le_refl _) _).alloc (by simp) _
  have hst0 := hst.within.below hbV
  have hiV : IntsIn (Lo (Off ⟨bs, bt, bm, gi⟩) w.heap.size) V0 (.slice a n1 c1) o.pod.req := hi.within.below hbV (Nat.le_refl _)
  have hlV : PodsX (Lo (Off ⟨bs, bt, bm, gi⟩) w.heap.size) V0 (.slice al lp cl) ps := hl.within.below hbV (Nat.le_refl _)
  obtain ⟨k1, k2, k3⟩ := hst.memLt
  change bs < _ at k1
  change bt < _ at k2
  change bm < _ at k3
  have hsV : V0.heap.size = w.heap.size + 2 := by rw [hV0]; simp
  have HOP := Lib.hid (hop V0 hbV hst0 hiV.ints)
  have HREF := Lib.hid href
  have HI := Lib.hid hiV
  have HLV := Lib.hid hlV
  have HE := Lib.hid (hE.below hbV)
  have HST := Lib.hid hst0
  have HBV := Lib.hid hbV
  have x0 : V0.cell? ⟨w.heap.size, 0, none⟩ = some (.int .i64 o.ev) := by rw [hV0]; go_simp
  have x1 : V0.cell? ⟨w.heap.size, 1, none⟩ = some (.int .i64 o.pod.id) := by rw [hV0]; go_simp
  have x2 : V0.cell? ⟨w.heap.size, 2, none⟩ = some (.int .i64 o.pod.prio) := by rw [hV0]; go_simp
  have x3 : V0.cell? ⟨w.heap.size, 3, none⟩ = some (.bool o.pod.pre) := by rw [hV0]; go_simp
  have x4 : V0.cell? ⟨w.heap.size, 4, none⟩ = some (.int .i64 o.pod.grace) := by rw [hV0]; go_simp
  have x5 : V0.cell? ⟨w.heap.size, 5, none⟩ = some (.slice a n1 c1) := by rw [hV0]; go_simp
  have x6 : V0.cell? ⟨w.heap.size, 6, none⟩ = some (.int .i64 o.pod.arr) := by rw [hV0]; go_simp
  have x7 : V0.cell? ⟨w.heap.size, 7, none⟩ = some (.int .i64 o.pod.ph) := by rw [hV0]; go_simp
  have x8 : V0.cell? ⟨w.heap.size, 8, none⟩ = some (.int .i64 o.pod.node) := by rw [hV0]; go_simp
  have x9 : V0.cell? ⟨w.heap.size, 9, none⟩ = some (.int .i64 o.pod.dead) := by rw [hV0]; go_simp
  have x10 : V0.cell? ⟨w.heap.size, 10, none⟩ = some (.int .i64 o.node) := by rw [hV0]; go_simp
  have x11 : V0.cell? ⟨w.heap.size, 11, none⟩ = some (.int .i64 o.dead) := by rw [hV0]; go_simp
  have y0 : V0.cell? ⟨w.heap.size + 1, 0, none⟩ = some (.int .i64 0) := by rw [hV0]; go_simp
  have y1 : V0.cell? ⟨w.heap.size + 1, 1, none⟩ = some (.int .i64 0) := by rw [hV0]; go_simp
  have y2 : V0.cell? ⟨w.heap.size + 1, 2, none⟩ = some (.bool false) := by rw [hV0]; go_simp
  have y3 : V0.cell? ⟨w.heap.size + 1, 3, none⟩ = some (.int .i64 0) := by rw [hV0]; go_simp
  have y4 : V0.cell? ⟨w.heap.size + 1, 4, none⟩ = some (.slice none 0 0) := by rw [hV0]; go_simp
  have y5 : V0.cell? ⟨w.heap.size + 1, 5, none⟩ = some (.int .i64 0) := by rw [hV0]; go_simp
  have y6 : V0.cell? ⟨w.heap.size + 1, 6, none⟩ = some (.int .i64 0) := by rw [hV0]; go_simp
  have y7 : V0.cell? ⟨w.heap.size + 1, 7, none⟩ = some (.int .i64 0) := by rw [hV0]; go_simp
  have y8 : V0.cell? ⟨w.heap.size + 1, 8, none⟩ = some (.int .i64 0) := by rw [hV0]; go_simp
  have yf : ∀ f, V0.frozen? ⟨w.heap.size + 1, f, none⟩ = false := fun f => by rw [hV0]; go_simp
  have HV := Lib.hid hV0
  have HX := Lib.hid hx
  have HZQ := Lib.hid hzq
  have HLQ := Lib.hid hlq
  have HLQS := Lib.hid hlqs
  have HQ := Lib.hid hq
  have hcx : (c != 0) = true := by simp at hc ⊢; exact hc
  clear hq
  clear hop href hst hl hi hE hbV hst0 hiV hlV hV0 hx hzq hlq hlqs
  go_enter Tryd.func65, Tryd.ntmps65
  go_wp2_with fail
  refine calls_named fun Y hY => ?_
  rw [← HV.out] at hY
  obtain rfl : V0 = Y := hY.symm
  clear HV hY
  refine HOP.out.mono ?_
  rintro e u1 ⟨g1, a5, c5, rfl, hst, hg, hgl, hS, hiq⟩
  have hszS := hS.size
  have of0 : Off ⟨bs, bt, bm, gi⟩ w.heap.size := ⟨by show w.heap.size ≠ bs; omega, by show w.heap.size ≠ bm; omega, by show w.heap.size ≠ gi; omega⟩
  have of1 : Off ⟨bs, bt, bm, gi⟩ (w.heap.size + 1) := ⟨by show w.heap.size + 1 ≠ bs; omega, by show w.heap.size + 1 ≠ bm; omega, by show w.heap.size + 1 ≠ gi; omega⟩
  replace hgl := hgl (by omega)
  have x0 := hS.cell of0 x0
  have x1 := hS.cell of0 x1
  have x2 := hS.cell of0 x2
  have x3 := hS.cell of0 x3
  have x4 := hS.cell of0 x4
  have x5 := hS.cell of0 x5
  have x6 := hS.cell of0 x6
  have x7 := hS.cell of0 x7
  have x8 := hS.cell of0 x8
  have x9 := hS.cell of0 x9
  have x10 := hS.cell of0 x10
  have x11 := hS.cell of0 x11
  have y0 := hS.cell of1 y0
  have y1 := hS.cell of1 y1
  have y2 := hS.cell of1 y2
  have y3 := hS.cell of1 y3
  have y4 := hS.cell of1 y4
  have y5 := hS.cell of1 y5
  have y6 := hS.cell of1 y6
  have y7 := hS.cell of1 y7
  have y8 := hS.cell of1 y8
  have yf : ∀ f, u1.frozen? ⟨w.heap.size + 1, f, none⟩ = false := fun f => (hS.frozen (by omega) of1).trans (yf f)
  have hE1 : ErrType u1 := hS.cell (HST.out.off hEB) HE.out
  have hsz1 : w.heap.size + 1 < u1.heap.size := by omega
  have HS := Lib.hid hS
  have HST1 := Lib.hid hst
  have HIQ := Lib.hid hiq
  have HE1 := Lib.hid hE1
  clear hS hst hiq hE1 HOP HE
  go_wp2_with fail
  refine calls_named fun U hU => ?_
  have stU : Stays (fun b => b ≠ w.heap.size + 1) u1 U := by rw [hU]; exact Stays.set9 _ _ _ _ _ _ _ _ _ ⟨rfl, rfl, rfl, Nat.le_refl _, fun _ _ _ => rfl⟩ (fun h => h rfl)
  have hsU : U.heap.size = u1.heap.size := by rw [hU]; simp
  have hn0 : w.heap.size ≠ w.heap.size + 1 := by omega
  have x0 := stU.cell hn0 x0
  have x1 := stU.cell hn0 x1
  have x2 := stU.cell hn0 x2
  have x3 := stU.cell hn0 x3
  have x4 := stU.cell hn0 x4
  have x5 := stU.cell hn0 x5
  have x6 := stU.cell hn0 x6
  have x7 := stU.cell hn0 x7
  have x8 := stU.cell hn0 x8
  have x9 := stU.cell hn0 x9
  have x10 := stU.cell hn0 x10
  have x11 := stU.cell hn0 x11
  have z0 : U.cell? ⟨w.heap.size + 1, 0, none⟩ = some (.int .i64 q.id) := by rw [hU]; go_simp
  have z1 : U.cell? ⟨w.heap.size + 1, 1, none⟩ = some (.int .i64 q.prio) := by rw [hU]; go_simp
  have z2 : U.cell? ⟨w.heap.size + 1, 2, none⟩ = some (.bool q.pre) := by rw [hU]; go_simp
  have z3 : U.cell? ⟨w.heap.size + 1, 3, none⟩ = some (.int .i64 q.grace) := by rw [hU]; go_simp
  have z4 : U.cell? ⟨w.heap.size + 1, 4, none⟩ = some (.slice a5 lq c5) := by rw [hU]; go_simp
  have z5 : U.cell? ⟨w.heap.size + 1, 5, none⟩ = some (.int .i64 q.arr) := by rw [hU]; go_simp
  have z6 : U.cell? ⟨w.heap.size + 1, 6, none⟩ = some (.int .i64 q.ph) := by rw [hU]; go_simp
  have z7 : U.cell? ⟨w.heap.size + 1, 7, none⟩ = some (.int .i64 q.node) := by rw [hU]; go_simp
  have z8 : U.cell? ⟨w.heap.size + 1, 8, none⟩ = some (.int .i64 q.dead) := by rw [hU]; go_simp
  have HE2 : Hid (ErrType U) := stU.cell (by have := HST.out.bs; show 3 ≠ _; change B ≤ bs at this; omega) HE1.out
  have HST2 : Hid (StoreAt ⟨bs, bt, bm, g1⟩ B (fun b => B ≤ b ∧ (b < w.heap.size ∨ V0.heap.size ≤ b)) U size qs) :=
    HST1.out.stays stU (by show bs ≠ _; omega) (by show bt ≠ _; omega) (by show bm ≠ _; omega) (fun _ => by show g1 ≠ _; omega) (fun b _ hb => by show b ≠ _; omega)
  have HIQ2 : Hid (IntsIn (fun b => V0.heap.size ≤ b) U (.slice a5 lq c5) q.req) := HIQ.out.stays stU fun b _ hb => by show b ≠ _; omega
  have hoff : ∀ b, b < V0.heap.size → Off ⟨bs, bt, bm, gi⟩ b → Off ⟨bs, bt, bm, g1⟩ b := fun b hb h => Off.next h hb hg
  have HLV2 : Hid (PodsX (Off ⟨bs, bt, bm, g1⟩) U (.slice al lp cl) ps) := ((HLV.out.stays HS.out fun b _ hb => hb.1).stays stU fun b _ hb => by have := hb.2; show b ≠ _; omega).imp fun b _ hb => hoff b (by have := hb.2; omega) hb.1
  have HI2 : Hid (IntsIn (Off ⟨bs, bt, bm, g1⟩) U (.slice a n1 c1) o.pod.req) := ((HI.out.stays HS.out fun b _ hb => hb.1).stays stU fun b _ hb => by have := hb.2; show b ≠ _; omega).imp fun b _ hb => hoff b (by have := hb.2; omega) hb.1
  have HSU : Hid (Stays (Off ⟨bs, bt, bm, gi⟩) w U) := Stays.imp (X := fun b => Off ⟨bs, bt, bm, gi⟩ b ∧ b < w.heap.size) (((Stays.of HBV.out).trans (HS.out.imp fun b _ h => h.1)).trans (stU.imp fun b _ h => by have := h.2; show b ≠ _; omega)) fun b hb h => ⟨h, hb⟩
  clear hU
  clear yf y0 y1 y2 y3 y4 y5 y6 y7 y8 HE1 HST1 HIQ HLV HI
  refine (HREF.out g1 U HLV2.out HI2.out).mono ?_
  rintro e u2 ⟨a6, c6, rfl, hl2, hb2⟩
  have hb2s := hb2.size
  have x1 := keepl hb2 x1
  have z0 := keepl hb2 z0
  have z1 := keepl hb2 z1
  have z2 := keepl hb2 z2
  have z3 := keepl hb2 z3
  have z4 := keepl hb2 z4
  have z5 := keepl hb2 z5
  have z6 := keepl hb2 z6
  have z7 := keepl hb2 z7
  have z8 := keepl hb2 z8
  have HE3 := Lib.hid (HE2.out.below hb2)
  have HST3 := Lib.hid (StoreAt.below HST2.out hb2)
  have HIQ3 : Hid (IntsAt u2 (.slice a5 lq c5) q.req) := HIQ2.out.ints.below hb2
  have HL2 := Lib.hid hl2
  have HB2 := Lib.hid hb2
  have hwu : w.heap.size + 1 < u2.heap.size := by omega
  have hwu0 : w.heap.size < u2.heap.size := by omega
  clear x0 x2 x3 x4 x5 x6 x7 x8 x9 x10 x11 HE2 HST2 HIQ2 HLV2 HI2 HREF
  clear hb2 hl2
  go_wp2_with fail
  refine calls_named fun X3 hX3 => ?_
  have hb3 : Below u2.heap.size u2 X3 := by rw [hX3]; exact (Below.refl _ _).alloc (Nat.le_refl _) _
  have z0 := keepl hb3 z0
  have z1 := keepl hb3 z1
  have z2 := keepl hb3 z2
  have z3 := keepl hb3 z3
  have z4 := keepl hb3 z4
  have z5 := keepl hb3 z5
  have z6 := keepl hb3 z6
  have z7 := keepl hb3 z7
  have z8 := keepl hb3 z8
  have t0 : X3.cell? ⟨u2.heap.size, 0, none⟩ = some (.int .i64 0) := by rw [hX3]; go_simp
  have t1 : X3.cell? ⟨u2.heap.size, 1, none⟩ = some (.int .i64 0) := by rw [hX3]; go_simp
  have t2 : X3.cell? ⟨u2.heap.size, 2, none⟩ = some (.bool false) := by rw [hX3]; go_simp
  have t3 : X3.cell? ⟨u2.heap.size, 3, none⟩ = some (.int .i64 0) := by rw [hX3]; go_simp
  have t4 : X3.cell? ⟨u2.heap.size, 4, none⟩ = some (.slice none 0 0) := by rw [hX3]; go_simp
  have t5 : X3.cell? ⟨u2.heap.size, 5, none⟩ = some (.int .i64 0) := by rw [hX3]; go_simp
  have t6 : X3.cell? ⟨u2.heap.size, 6, none⟩ = some (.int .i64 0) := by rw [hX3]; go_simp
  have t7 : X3.cell? ⟨u2.heap.size, 7, none⟩ = some (.int .i64 0) := by rw [hX3]; go_simp
  have t8 : X3.cell? ⟨u2.heap.size, 8, none⟩ = some (.int .i64 0) := by rw [hX3]; go_simp
  have HE4 := Lib.hid (HE3.out.below hb3)
  have hAt : ∀ W, ErrType W → Calls Tryd.prog 76 #[.iface 106 (.agg #[.int .i64 c, .int .i64 0])] W fun r w' => r = .returned (.tuple #[.int .i64 0, .bool true]) ∧ Below W.heap.size W w' := fun W hW => faultAt_any (some (EV.fault c 0)) W hW
  have hCd : ∀ W, ErrType W → Calls Tryd.prog 102 #[.iface 106 (.agg #[.int .i64 c, .int .i64 0])] W fun r w' => r = .returned (.int .i64 c) ∧ Below W.heap.size W w' := fun W hW => code13_any (some (EV.fault c 0)) W hW
  have hSm : ∀ W, Below u2.heap.size u2 W → Calls Tryd.prog 67 #[.agg #[.int .i64 q.id, .int .i64 q.prio, .bool q.pre, .int .i64 q.grace, .slice a5 lq c5, .int .i64 q.arr, .int .i64 q.ph, .int .i64 q.node, .int .i64 q.dead], .agg #[.int .i64 0, .int .i64 0, .bool false, .int .i64 0, .slice none 0 0, .int .i64 0, .int .i64 0, .int .i64 0, .int .i64 0]] W fun e w' => e = .returned (.bool true) ∧ Below W.heap.size W w' := fun W hW => by
    have h := samePod_any q ⟨0, 0, false, 0, [], 0, 0, 0, 0⟩ (.slice a5 lq c5) (.slice none 0 0) W HZQ.out (by simp) (HIQ3.out.below hW) ⟨none, 0, rfl, .inl rfl⟩
    rw [decide_eq_true HQ.out] at h
    exact h
  have HAt := Lib.hid hAt; clear hAt
  have HCd := Lib.hid hCd; clear hCd
  have HSm := Lib.hid hSm; clear hSm
  have HB3 := Lib.hid hb3
  clear hX3 hb3 HE3
  refine (HAt.out _ HE4.out).mono ?_
  rintro e X4 ⟨rfl, hb4⟩
  have z0 := keepl hb4 z0
  have z1 := keepl hb4 z1
  have z2 := keepl hb4 z2
  have z3 := keepl hb4 z3
  have z4 := keepl hb4 z4
  have z5 := keepl hb4 z5
  have z6 := keepl hb4 z6
  have z7 := keepl hb4 z7
  have z8 := keepl hb4 z8
  have t0 := keepl hb4 t0
  have t1 := keepl hb4 t1
  have t2 := keepl hb4 t2
  have t3 := keepl hb4 t3
  have t4 := keepl hb4 t4
  have t5 := keepl hb4 t5
  have t6 := keepl hb4 t6
  have t7 := keepl hb4 t7
  have t8 := keepl hb4 t8
  have HE5 := Lib.hid (HE4.out.below hb4)
  have HB4 := Lib.hid (HB3.out.trans (hb4.mono HB3.out.size))
  clear hb4 HB3 HE4
  go_wp2_with fail
  refine (HCd.out _ HE5.out).mono ?_
  rintro e X5 ⟨rfl, hb5⟩
  have z0 := keepl hb5 z0
  have z1 := keepl hb5 z1
  have z2 := keepl hb5 z2
  have z3 := keepl hb5 z3
  have z4 := keepl hb5 z4
  have z5 := keepl hb5 z5
  have z6 := keepl hb5 z6
  have z7 := keepl hb5 z7
  have z8 := keepl hb5 z8
  have t0 := keepl hb5 t0
  have t1 := keepl hb5 t1
  have t2 := keepl hb5 t2
  have t3 := keepl hb5 t3
  have t4 := keepl hb5 t4
  have t5 := keepl hb5 t5
  have t6 := keepl hb5 t6
  have t7 := keepl hb5 t7
  have t8 := keepl hb5 t8
  have HB5 := Lib.hid (HB4.out.trans (hb5.mono HB4.out.size))
  clear hb5 HB4 HE5
  go_wp2_with fail
  refine (HSm.out _ HB5.out).mono ?_
  rintro e X6 ⟨rfl, hb6⟩
  have HB6 := Lib.hid (HB5.out.trans (hb6.mono HB5.out.size))
  clear hb6
  go_wp2
  go_ret2
  have hz6 := HB6.out.size
  refine ⟨_, g1, rfl, (StoreAt.below HST3.out HB6.out).imp fun b _ hb => hb.1, ((HL2.out.within.below HB6.out (Nat.le_refl _)).imp fun b _ hb => ?_), ?_, by omega, ?_⟩
  · rcases hb.1 with h | h
    · exact h
    · exact ⟨by show b ≠ bs; omega, by show b ≠ bm; omega, by show b ≠ g1; omega⟩
  · rcases hg with h | h
    · exact .inl h
    · right; omega
  · exact (HSU.out.trans (Stays.of HB2.out)).trans (Stays.of HB6.out)

set_option maxHeartbeats 8000000 in
set_option maxRecDepth 100000 in
theorem play_a0 {bs bt bm gi B : Nat} {size : Int} {ps qs : List Pod} {q : Pod} (n c : Int) (o : Op13) (al a : Option Addr) (lp cl n1 c1 lq lqs : Nat) (w : World) (hev : (o.ev == 0) = false) (hst : StoreAt ⟨bs, bt, bm, gi⟩ B (fun b => B ≤ b) w size ps) (hgi : gi < w.heap.size) (hl : PodsX (Off ⟨bs, bt, bm, gi⟩) w (.slice al lp cl) ps) (hi : IntsIn (Off ⟨bs, bt, bm, gi⟩) w (.slice a n1 c1) o.pod.req) (hE : ErrType w) (hEB : 3 < B)
    (hx : qs.length * 88 ≤ 140737488351232) (hlqs : lqs = qs.length) (hlq : lq = q.req.length) (hzq : q.req.length * 8 ≤ 140737488351232) {kf : Nat} (hkf : findI qs 0 o.pod.id = (kf : Int)) (hpk : podAt qs kf = q) (hkl : kf < qs.length)
    (hop : ∀ V, Below w.heap.size w V → StoreAt ⟨bs, bt, bm, gi⟩ B (fun b => B ≤ b ∧ b < w.heap.size) V size ps → IntsAt V (.slice a n1 c1) o.pod.req → Calls Tryd.prog 57 #[.pointer (some ⟨bs, 0, none⟩), .int .i64 o.pod.id, .int .i64 o.ev, .int .i64 o.node, .int .i64 o.dead] V fun e w' => ∃ g' a5 c5, e = .returned (.tuple #[podV q (.slice a5 lq c5), .nilIface]) ∧ StoreAt ⟨bs, bt, bm, g'⟩ B (fun b => B ≤ b ∧ (b < w.heap.size ∨ V.heap.size ≤ b)) w' size qs ∧ (g' = gi ∨ V.heap.size ≤ g') ∧ (gi < V.heap.size → g' < w'.heap.size) ∧ Stays (Off ⟨bs, bt, bm, gi⟩) V w' ∧ IntsIn (fun b => V.heap.size ≤ b) w' (.slice a5 lq c5) q.req)
    (href : ∀ g U, PodsX (Off ⟨bs, bt, bm, g⟩) U (.slice al lp cl) ps → IntsIn (Off ⟨bs, bt, bm, g⟩) U (.slice a n1 c1) o.pod.req → Calls Tryd.prog 109 #[.slice al lp cl, .int .i64 o.pod.id, .int .i64 o.ev, .int .i64 o.node, .int .i64 o.dead] U fun e w' => ∃ a' c', e = .returned (.tuple #[.slice a' lqs c', .int .i64 0]) ∧ PodsX (fun b => Off ⟨bs, bt, bm, g⟩ b ∨ U.heap.size ≤ b) w' (.slice a' lqs c') qs ∧ Below U.heap.size U w') :
    Calls Tryd.prog 65 #[.pointer (some ⟨bs, 0, none⟩), .slice al lp cl, .int .i64 n, op13V o (.slice a n1 c1)] w (PlayOk ⟨bs, bt, bm, gi⟩ B size qs w) := by
  obtain ⟨V0, hV0⟩ : ∃ V0, V0 = (w.alloc (.cells #[.int .i64 o.ev, .int .i64 o.pod.id, .int .i64 o.pod.prio, .bool o.pod.pre, .int .i64 o.pod.grace, .slice a n1 c1, .int .i64 o.pod.arr, .int .i64 o.pod.ph, .int .i64 o.pod.node, .int .i64 o.pod.dead, .int .i64 o.node, .int .i64 o.dead] 67)).alloc (.cells z9 65) := ⟨_, rfl⟩
  have hbV : Below w.heap.size w V0 := by rw [hV0]; exact ((Below.refl _ w).alloc (Nat.le_refl _) _).alloc (by simp) _
  have hst0 := hst.within.below hbV
  have hiV : IntsIn (Lo (Off ⟨bs, bt, bm, gi⟩) w.heap.size) V0 (.slice a n1 c1) o.pod.req := hi.within.below hbV (Nat.le_refl _)
  have hlV : PodsX (Lo (Off ⟨bs, bt, bm, gi⟩) w.heap.size) V0 (.slice al lp cl) ps := hl.within.below hbV (Nat.le_refl _)
  obtain ⟨k1, k2, k3⟩ := hst.memLt
  change bs < _ at k1
  change bt < _ at k2
  change bm < _ at k3
  have hsV : V0.heap.size = w.heap.size + 2 := by rw [hV0]; simp
  have HOP := Lib.hid (hop V0 hbV hst0 hiV.ints)
  have HREF := Lib.hid href
  have HI := Lib.hid hiV
  have HLV := Lib.hid hlV
  have HE := Lib.hid (hE.below hbV)
  have HST := Lib.hid hst0
  have HBV := Lib.hid hbV
  have x0 : V0.cell? ⟨w.heap.size, 0, none⟩ = some (.int .i64 o.ev) := by rw [hV0]; go_simp
  have x1 : V0.cell? ⟨w.heap.size, 1, none⟩ = some (.int .i64 o.pod.id) := by rw [hV0]; go_simp
  have x2 : V0.cell? ⟨w.heap.size, 2, none⟩ = some (.int .i64 o.pod.prio) := by rw [hV0]; go_simp
  have x3 : V0.cell? ⟨w.heap.size, 3, none⟩ = some (.bool o.pod.pre) := by rw [hV0]; go_simp
  have x4 : V0.cell? ⟨w.heap.size, 4, none⟩ = some (.int .i64 o.pod.grace) := by rw [hV0]; go_simp
  have x5 : V0.cell? ⟨w.heap.size, 5, none⟩ = some (.slice a n1 c1) := by rw [hV0]; go_simp
  have x6 : V0.cell? ⟨w.heap.size, 6, none⟩ = some (.int .i64 o.pod.arr) := by rw [hV0]; go_simp
  have x7 : V0.cell? ⟨w.heap.size, 7, none⟩ = some (.int .i64 o.pod.ph) := by rw [hV0]; go_simp
  have x8 : V0.cell? ⟨w.heap.size, 8, none⟩ = some (.int .i64 o.pod.node) := by rw [hV0]; go_simp
  have x9 : V0.cell? ⟨w.heap.size, 9, none⟩ = some (.int .i64 o.pod.dead) := by rw [hV0]; go_simp
  have x10 : V0.cell? ⟨w.heap.size, 10, none⟩ = some (.int .i64 o.node) := by rw [hV0]; go_simp
  have x11 : V0.cell? ⟨w.heap.size, 11, none⟩ = some (.int .i64 o.dead) := by rw [hV0]; go_simp
  have y0 : V0.cell? ⟨w.heap.size + 1, 0, none⟩ = some (.int .i64 0) := by rw [hV0]; go_simp
  have y1 : V0.cell? ⟨w.heap.size + 1, 1, none⟩ = some (.int .i64 0) := by rw [hV0]; go_simp
  have y2 : V0.cell? ⟨w.heap.size + 1, 2, none⟩ = some (.bool false) := by rw [hV0]; go_simp
  have y3 : V0.cell? ⟨w.heap.size + 1, 3, none⟩ = some (.int .i64 0) := by rw [hV0]; go_simp
  have y4 : V0.cell? ⟨w.heap.size + 1, 4, none⟩ = some (.slice none 0 0) := by rw [hV0]; go_simp
  have y5 : V0.cell? ⟨w.heap.size + 1, 5, none⟩ = some (.int .i64 0) := by rw [hV0]; go_simp
  have y6 : V0.cell? ⟨w.heap.size + 1, 6, none⟩ = some (.int .i64 0) := by rw [hV0]; go_simp
  have y7 : V0.cell? ⟨w.heap.size + 1, 7, none⟩ = some (.int .i64 0) := by rw [hV0]; go_simp
  have y8 : V0.cell? ⟨w.heap.size + 1, 8, none⟩ = some (.int .i64 0) := by rw [hV0]; go_simp
  have yf : ∀ f, V0.frozen? ⟨w.heap.size + 1, f, none⟩ = false := fun f => by rw [hV0]; go_simp
  have HV := Lib.hid hV0
  have HX := Lib.hid hx
  have HZQ := Lib.hid hzq
  have HLQ := Lib.hid hlq
  have HLQS := Lib.hid hlqs
  have HKF := Lib.hid hkf
  have HPK := Lib.hid hpk
  have HKL := Lib.hid hkl
  clear hkf hpk hkl
  clear hop href hst hl hi hE hbV hst0 hiV hlV hV0 hx hzq hlq hlqs
  go_enter Tryd.func65, Tryd.ntmps65
  go_wp2_with fail
  refine calls_named fun Y hY => ?_
  rw [← HV.out] at hY
  obtain rfl : V0 = Y := hY.symm
  clear HV hY
  refine HOP.out.mono ?_
  rintro e u1 ⟨g1, a5, c5, rfl, hst, hg, hgl, hS, hiq⟩
  have hszS := hS.size
  have of0 : Off ⟨bs, bt, bm, gi⟩ w.heap.size := ⟨by show w.heap.size ≠ bs; omega, by show w.heap.size ≠ bm; omega, by show w.heap.size ≠ gi; omega⟩
  have of1 : Off ⟨bs, bt, bm, gi⟩ (w.heap.size + 1) := ⟨by show w.heap.size + 1 ≠ bs; omega, by show w.heap.size + 1 ≠ bm; omega, by show w.heap.size + 1 ≠ gi; omega⟩
  replace hgl := hgl (by omega)
  have x0 := hS.cell of0 x0
  have x1 := hS.cell of0 x1
  have x2 := hS.cell of0 x2
  have x3 := hS.cell of0 x3
  have x4 := hS.cell of0 x4
  have x5 := hS.cell of0 x5
  have x6 := hS.cell of0 x6
  have x7 := hS.cell of0 x7
  have x8 := hS.cell of0 x8
  have x9 := hS.cell of0 x9
  have x10 := hS.cell of0 x10
  have x11 := hS.cell of0 x11
  have y0 := hS.cell of1 y0
  have y1 := hS.cell of1 y1
  have y2 := hS.cell of1 y2
  have y3 := hS.cell of1 y3
  have y4 := hS.cell of1 y4
  have y5 := hS.cell of1 y5
  have y6 := hS.cell of1 y6
  have y7 := hS.cell of1 y7
  have y8 := hS.cell of1 y8
  have yf : ∀ f, u1.frozen? ⟨w.heap.size + 1, f, none⟩ = false := fun f => (hS.frozen (by omega) of1).trans (yf f)
  have hE1 : ErrType u1 := hS.cell (HST.out.off hEB) HE.out
  have hsz1 : w.heap.size + 1 < u1.heap.size := by omega
  have HS := Lib.hid hS
  have HST1 := Lib.hid hst
  have HIQ := Lib.hid hiq
  have HE1 := Lib.hid hE1
  clear hS hst hiq hE1 HOP HE
  go_wp2_with fail
  refine calls_named fun U hU => ?_
  have stU : Stays (fun b => b ≠ w.heap.size + 1) u1 U := by rw [hU]; exact Stays.set9 _ _ _ _ _ _ _ _ _ ⟨rfl, rfl, rfl, Nat.le_refl _, fun _ _ _ => rfl⟩ (fun h => h rfl)
  have hsU : U.heap.size = u1.heap.size := by rw [hU]; simp
  have hn0 : w.heap.size ≠ w.heap.size + 1 := by omega
  have x0 := stU.cell hn0 x0
  have x1 := stU.cell hn0 x1
  have x2 := stU.cell hn0 x2
  have x3 := stU.cell hn0 x3
  have x4 := stU.cell hn0 x4
  have x5 := stU.cell hn0 x5
  have x6 := stU.cell hn0 x6
  have x7 := stU.cell hn0 x7
  have x8 := stU.cell hn0 x8
  have x9 := stU.cell hn0 x9
  have x10 := stU.cell hn0 x10
  have x11 := stU.cell hn0 x11
  have z0 : U.cell? ⟨w.heap.size + 1, 0, none⟩ = some (.int .i64 q.id) := by rw [hU]; go_simp
  have z1 : U.cell? ⟨w.heap.size + 1, 1, none⟩ = some (.int .i64 q.prio) := by rw [hU]; go_simp
  have z2 : U.cell? ⟨w.heap.size + 1, 2, none⟩ = some (.bool q.pre) := by rw [hU]; go_simp
  have z3 : U.cell? ⟨w.heap.size + 1, 3, none⟩ = some (.int .i64 q.grace) := by rw [hU]; go_simp
  have z4 : U.cell? ⟨w.heap.size + 1, 4, none⟩ = some (.slice a5 lq c5) := by rw [hU]; go_simp
  have z5 : U.cell? ⟨w.heap.size + 1, 5, none⟩ = some (.int .i64 q.arr) := by rw [hU]; go_simp
  have z6 : U.cell? ⟨w.heap.size + 1, 6, none⟩ = some (.int .i64 q.ph) := by rw [hU]; go_simp
  have z7 : U.cell? ⟨w.heap.size + 1, 7, none⟩ = some (.int .i64 q.node) := by rw [hU]; go_simp
  have z8 : U.cell? ⟨w.heap.size + 1, 8, none⟩ = some (.int .i64 q.dead) := by rw [hU]; go_simp
  have HE2 : Hid (ErrType U) := stU.cell (by have := HST.out.bs; show 3 ≠ _; change B ≤ bs at this; omega) HE1.out
  have HST2 : Hid (StoreAt ⟨bs, bt, bm, g1⟩ B (fun b => B ≤ b ∧ (b < w.heap.size ∨ V0.heap.size ≤ b)) U size qs) :=
    HST1.out.stays stU (by show bs ≠ _; omega) (by show bt ≠ _; omega) (by show bm ≠ _; omega) (fun _ => by show g1 ≠ _; omega) (fun b _ hb => by show b ≠ _; omega)
  have HIQ2 : Hid (IntsIn (fun b => V0.heap.size ≤ b) U (.slice a5 lq c5) q.req) := HIQ.out.stays stU fun b _ hb => by show b ≠ _; omega
  have hoff : ∀ b, b < V0.heap.size → Off ⟨bs, bt, bm, gi⟩ b → Off ⟨bs, bt, bm, g1⟩ b := fun b hb h => Off.next h hb hg
  have HLV2 : Hid (PodsX (Off ⟨bs, bt, bm, g1⟩) U (.slice al lp cl) ps) := ((HLV.out.stays HS.out fun b _ hb => hb.1).stays stU fun b _ hb => by have := hb.2; show b ≠ _; omega).imp fun b _ hb => hoff b (by have := hb.2; omega) hb.1
  have HI2 : Hid (IntsIn (Off ⟨bs, bt, bm, g1⟩) U (.slice a n1 c1) o.pod.req) := ((HI.out.stays HS.out fun b _ hb => hb.1).stays stU fun b _ hb => by have := hb.2; show b ≠ _; omega).imp fun b _ hb => hoff b (by have := hb.2; omega) hb.1
  have HSU : Hid (Stays (Off ⟨bs, bt, bm, gi⟩) w U) := Stays.imp (X := fun b => Off ⟨bs, bt, bm, gi⟩ b ∧ b < w.heap.size) (((Stays.of HBV.out).trans (HS.out.imp fun b _ h => h.1)).trans (stU.imp fun b _ h => by have := h.2; show b ≠ _; omega)) fun b hb h => ⟨h, hb⟩
  clear hU
  clear yf y0 y1 y2 y3 y4 y5 y6 y7 y8 HE1 HST1 HIQ HLV HI
  refine (HREF.out g1 U HLV2.out HI2.out).mono ?_
  rintro e u2 ⟨a6, c6, rfl, hl2, hb2⟩
  have hb2s := hb2.size
  have x1 := keepl hb2 x1
  have z0 := keepl hb2 z0
  have z1 := keepl hb2 z1
  have z2 := keepl hb2 z2
  have z3 := keepl hb2 z3
  have z4 := keepl hb2 z4
  have z5 := keepl hb2 z5
  have z6 := keepl hb2 z6
  have z7 := keepl hb2 z7
  have z8 := keepl hb2 z8
  have HE3 := Lib.hid (HE2.out.below hb2)
  have HST3 := Lib.hid (StoreAt.below HST2.out hb2)
  have HIQ3 : Hid (IntsAt u2 (.slice a5 lq c5) q.req) := HIQ2.out.ints.below hb2
  have HL2 := Lib.hid hl2
  have HB2 := Lib.hid hb2
  have hwu : w.heap.size + 1 < u2.heap.size := by omega
  have hwu0 : w.heap.size < u2.heap.size := by omega
  clear x0 x2 x3 x4 x5 x6 x7 x8 x9 x10 x11 HE2 HST2 HIQ2 HLV2 HI2 HREF
  obtain ⟨bq, oq, capq, rvq, hv, hbq, hcl, hint⟩ := hl2.get HKL.out
  rw [← HLQS.out] at hv
  injection hv with hv1 _ hv3
  subst hv1
  subst hv3
  rw [HPK.out] at hcl hint
  obtain ⟨ar, cr, rfl, -⟩ := id hint
  rw [← HLQ.out] at hcl hint
  obtain ⟨d0, d1, d2, d3, d4, d5, d6, d7, d8⟩ := hcl
  have HF : Hid (∀ W, Below u2.heap.size u2 W → Calls Tryd.prog 66 #[.slice (some ⟨bq, oq, none⟩) lqs c6, .int .i64 o.pod.id] W fun e w' => e = .returned (.int .i64 (kf : Int)) ∧ W = w') := fun W hW => by
    have h := find_any (.slice (some ⟨bq, oq, none⟩) lqs c6) qs o.pod.id W (by have := HX.out; omega) (hl2.pods.below hW)
    rw [HKF.out] at h
    exact h
  have hk0 : (0 : Int) ≤ (kf : Int) := by omega
  have hk1 : (kf : Int) < (lqs : Int) := by have := HKL.out; rw [← HLQS.out] at this; omega
  have HINT := Lib.hid hint
  clear hb2 hl2 hint
  go_wp2_with fail
  refine (HF.out _ ((Below.refl _ _).alloc (Nat.le_refl _) _)).mono ?_
  rintro e u3 ⟨rfl, rfl⟩
  go_wp2_with fail
  refine calls_named fun X3 hX3 => ?_
  have hb3 : Below u2.heap.size u2 X3 := by rw [hX3]; exact (Below.refl _ _).alloc (Nat.le_refl _) _
  have z0 := keepl hb3 z0
  have z1 := keepl hb3 z1
  have z2 := keepl hb3 z2
  have z3 := keepl hb3 z3
  have z4 := keepl hb3 z4
  have z5 := keepl hb3 z5
  have z6 := keepl hb3 z6
  have z7 := keepl hb3 z7
  have z8 := keepl hb3 z8
  have t0 : X3.cell? ⟨u2.heap.size, 0, none⟩ = some (.int .i64 q.id) := by rw [hX3]; go_simp
  have t1 : X3.cell? ⟨u2.heap.size, 1, none⟩ = some (.int .i64 q.prio) := by rw [hX3]; go_simp
  have t2 : X3.cell? ⟨u2.heap.size, 2, none⟩ = some (.bool q.pre) := by rw [hX3]; go_simp
  have t3 : X3.cell? ⟨u2.heap.size, 3, none⟩ = some (.int .i64 q.grace) := by rw [hX3]; go_simp
  have t4 : X3.cell? ⟨u2.heap.size, 4, none⟩ = some (.slice ar lq cr) := by rw [hX3]; go_simp
  have t5 : X3.cell? ⟨u2.heap.size, 5, none⟩ = some (.int .i64 q.arr) := by rw [hX3]; go_simp
  have t6 : X3.cell? ⟨u2.heap.size, 6, none⟩ = some (.int .i64 q.ph) := by rw [hX3]; go_simp
  have t7 : X3.cell? ⟨u2.heap.size, 7, none⟩ = some (.int .i64 q.node) := by rw [hX3]; go_simp
  have t8 : X3.cell? ⟨u2.heap.size, 8, none⟩ = some (.int .i64 q.dead) := by rw [hX3]; go_simp
  have HE4 := Lib.hid (HE3.out.below hb3)
  have hAt : ∀ W, ErrType W → Calls Tryd.prog 76 #[.nilIface] W fun r w' => r = .returned (.tuple #[.int .i64 0, .bool false]) ∧ Below W.heap.size W w' := fun W hW => faultAt_any none W hW
  have hCd : ∀ W, ErrType W → Calls Tryd.prog 102 #[.nilIface] W fun r w' => r = .returned (.int .i64 0) ∧ Below W.heap.size W w' := fun W hW => code13_any none W hW
  have hSm : ∀ W, Below u2.heap.size u2 W → Calls Tryd.prog 67 #[.agg #[.int .i64 q.id, .int .i64 q.prio, .bool q.pre, .int .i64 q.grace, .slice a5 lq c5, .int .i64 q.arr, .int .i64 q.ph, .int .i64 q.node, .int .i64 q.dead], .agg #[.int .i64 q.id, .int .i64 q.prio, .bool q.pre, .int .i64 q.grace, .slice ar lq cr, .int .i64 q.arr, .int .i64 q.ph, .int .i64 q.node, .int .i64 q.dead]] W fun e w' => e = .returned (.bool true) ∧ Below W.heap.size W w' := fun W hW => by
    have h := samePod_any q q (.slice a5 lq c5) (.slice ar lq cr) W HZQ.out HZQ.out (HIQ3.out.below hW) (HINT.out.below hW)
    rw [decide_eq_true rfl] at h
    exact h
  have HAt := Lib.hid hAt; clear hAt
  have HCd := Lib.hid hCd; clear hCd
  have HSm := Lib.hid hSm; clear hSm
  have HB3 := Lib.hid hb3
  clear hX3 hb3 HE3
  refine (HAt.out _ HE4.out).mono ?_
  rintro e X4 ⟨rfl, hb4⟩
  have z0 := keepl hb4 z0
  have z1 := keepl hb4 z1
  have z2 := keepl hb4 z2
  have z3 := keepl hb4 z3
  have z4 := keepl hb4 z4
  have z5 := keepl hb4 z5
  have z6 := keepl hb4 z6
  have z7 := keepl hb4 z7
  have z8 := keepl hb4 z8
  have t0 := keepl hb4 t0
  have t1 := keepl hb4 t1
  have t2 := keepl hb4 t2
  have t3 := keepl hb4 t3
  have t4 := keepl hb4 t4
  have t5 := keepl hb4 t5
  have t6 := keepl hb4 t6
  have t7 := keepl hb4 t7
  have t8 := keepl hb4 t8
  have HE5 := Lib.hid (HE4.out.below hb4)
  have HB4 := Lib.hid (HB3.out.trans (hb4.mono HB3.out.size))
  clear hb4 HB3 HE4
  go_wp2_with fail
  refine (HCd.out _ HE5.out).mono ?_
  rintro e X5 ⟨rfl, hb5⟩
  have z0 := keepl hb5 z0
  have z1 := keepl hb5 z1
  have z2 := keepl hb5 z2
  have z3 := keepl hb5 z3
  have z4 := keepl hb5 z4
  have z5 := keepl hb5 z5
  have z6 := keepl hb5 z6
  have z7 := keepl hb5 z7
  have z8 := keepl hb5 z8
  have t0 := keepl hb5 t0
  have t1 := keepl hb5 t1
  have t2 := keepl hb5 t2
  have t3 := keepl hb5 t3
  have t4 := keepl hb5 t4
  have t5 := keepl hb5 t5
  have t6 := keepl hb5 t6
  have t7 := keepl hb5 t7
  have t8 := keepl hb5 t8
  have HB5 := Lib.hid (HB4.out.trans (hb5.mono HB4.out.size))
  clear hb5 HB4 HE5
  go_wp2_with fail
  refine (HSm.out _ HB5.out).mono ?_
  rintro e X6 ⟨rfl, hb6⟩
  have HB6 := Lib.hid (HB5.out.trans (hb6.mono HB5.out.size))
  clear hb6
  go_wp2
  go_ret2
  have hz6 := HB6.out.size
  refine ⟨_, g1, rfl, (StoreAt.below HST3.out HB6.out).imp fun b _ hb => hb.1, ((HL2.out.within.below HB6.out (Nat.le_refl _)).imp fun b _ hb => ?_), ?_, by omega, ?_⟩
  · rcases hb.1 with h | h
    · exact h
    · exact ⟨by show b ≠ bs; omega, by show b ≠ bm; omega, by show b ≠ g1; omega⟩
  · rcases hg with h | h
    · exact .inl h
    · right; omega
  · exact (HSU.out.trans (Stays.of HB2.out)).trans (Stays.of HB6.out)

set_option maxHeartbeats 8000000 in
set_option maxRecDepth 100000 in
theorem play_an {bs bt bm gi B : Nat} {size : Int} {ps qs : List Pod} {q : Pod} (n c : Int) (o : Op13) (al a : Option Addr) (lp cl n1 c1 lq lqs : Nat) (w : World) (hev : (o.ev == 0) = false) (hst : StoreAt ⟨bs, bt, bm, gi⟩ B (fun b => B ≤ b) w size ps) (hgi : gi < w.heap.size) (hl : PodsX (Off ⟨bs, bt, bm, gi⟩) w (.slice al lp cl) ps) (hi : IntsIn (Off ⟨bs, bt, bm, gi⟩) w (.slice a n1 c1) o.pod.req) (hE : ErrType w) (hEB : 3 < B)
    (hx : qs.length * 88 ≤ 140737488351232) (hlqs : lqs = qs.length) (hlq : lq = q.req.length) (hzq : q.req.length * 8 ≤ 140737488351232) (hc : (c == 0) = false) (hq : q = ⟨0, 0, false, 0, [], 0, 0, 0, 0⟩)
    (hop : ∀ V, Below w.heap.size w V → StoreAt ⟨bs, bt, bm, gi⟩ B (fun b => B ≤ b ∧ b < w.heap.size) V size ps → IntsAt V (.slice a n1 c1) o.pod.req → Calls Tryd.prog 57 #[.pointer (some ⟨bs, 0, none⟩), .int .i64 o.pod.id, .int .i64 o.ev, .int .i64 o.node, .int .i64 o.dead] V fun e w' => ∃ g' a5 c5, e = .returned (.tuple #[podV q (.slice a5 lq c5), .iface 106 (.agg #[.int .i64 c, .int .i64 0])]) ∧ StoreAt ⟨bs, bt, bm, g'⟩ B (fun b => B ≤ b ∧ (b < w.heap.size ∨ V.heap.size ≤ b)) w' size qs ∧ (g' = gi ∨ V.heap.size ≤ g') ∧ (gi < V.heap.size → g' < w'.heap.size) ∧ Stays (Off ⟨bs, bt, bm, gi⟩) V w' ∧ IntsIn (fun b => V.heap.size ≤ b) w' (.slice a5 lq c5) q.req)
    (href : ∀ g U, PodsX (Off ⟨bs, bt, bm, g⟩) U (.slice al lp cl) ps → IntsIn (Off ⟨bs, bt, bm, g⟩) U (.slice a n1 c1) o.pod.req → Calls Tryd.prog 109 #[.slice al lp cl, .int .i64 o.pod.id, .int .i64 o.ev, .int .i64 o.node, .int .i64 o.dead] U fun e w' => ∃ a' c', e = .returned (.tuple #[.slice a' lqs c', .int .i64 c]) ∧ PodsX (fun b => Off ⟨bs, bt, bm, g⟩ b ∨ U.heap.size ≤ b) w' (.slice a' lqs c') qs ∧ Below U.heap.size U w') :
    Calls Tryd.prog 65 #[.pointer (some ⟨bs, 0, none⟩), .slice al lp cl, .int .i64 n, op13V o (.slice a n1 c1)] w (PlayOk ⟨bs, bt, bm, gi⟩ B size qs w) := by
  obtain ⟨V0, hV0⟩ : ∃ V0, V0 = (w.alloc (.cells #[.int .i64 o.ev, .int .i64 o.pod.id, .int .i64 o.pod.prio, .bool o.pod.pre, .int .i64 o.pod.grace, .slice a n1 c1, .int .i64 o.pod.arr, .int .i64 o.pod.ph, .int .i64 o.pod.node, .int .i64 o.pod.dead, .int .i64 o.node, .int .i64 o.dead] 67)).alloc (.cells z9 65) := ⟨_, rfl⟩
  have hbV : Below w.heap.size w V0 := by rw [hV0]; exact ((Below.refl _ w).alloc (Nat.le_refl _) _).alloc (by simp) _
  have hst0 := hst.within.below hbV
  have hiV : IntsIn (Lo (Off ⟨bs, bt, bm, gi⟩) w.heap.size) V0 (.slice a n1 c1) o.pod.req := hi.within.below hbV (Nat.le_refl _)
  have hlV : PodsX (Lo (Off ⟨bs, bt, bm, gi⟩) w.heap.size) V0 (.slice al lp cl) ps := hl.within.below hbV (Nat.le_refl _)
  obtain ⟨k1, k2, k3⟩ := hst.memLt
  change bs < _ at k1
  change bt < _ at k2
  change bm < _ at k3
  have hsV : V0.heap.size = w.heap.size + 2 := by rw [hV0]; simp
  have HOP := Lib.hid (hop V0 hbV hst0 hiV.ints)
  have HREF := Lib.hid href
  have HI := Lib.hid hiV
  have HLV := Lib.hid hlV
  have HE := Lib.hid (hE.below hbV)
  have HST := Lib.hid hst0
  have HBV := Lib.hid hbV
  have x0 : V0.cell? ⟨w.heap.size, 0, none⟩ = some (.int .i64 o.ev) := by rw [hV0]; go_simp
  have x1 : V0.cell? ⟨w.heap.size, 1, none⟩ = some (.int .i64 o.pod.id) := by rw [hV0]; go_simp
  have x2 : V0.cell? ⟨w.heap.size, 2, none⟩ = some (.int .i64 o.pod.prio) := by rw [hV0]; go_simp
  have x3 : V0.cell? ⟨w.heap.size, 3, none⟩ = some (.bool o.pod.pre) := by rw [hV0]; go_simp
  have x4 : V0.cell? ⟨w.heap.size, 4, none⟩ = some (.int .i64 o.pod.grace) := by rw [hV0]; go_simp
  have x5 : V0.cell? ⟨w.heap.size, 5, none⟩ = some (.slice a n1 c1) := by rw [hV0]; go_simp
  have x6 : V0.cell? ⟨w.heap.size, 6, none⟩ = some (.int .i64 o.pod.arr) := by rw [hV0]; go_simp
  have x7 : V0.cell? ⟨w.heap.size, 7, none⟩ = some (.int .i64 o.pod.ph) := by rw [hV0]; go_simp
  have x8 : V0.cell? ⟨w.heap.size, 8, none⟩ = some (.int .i64 o.pod.node) := by rw [hV0]; go_simp
  have x9 : V0.cell? ⟨w.heap.size, 9, none⟩ = some (.int .i64 o.pod.dead) := by rw [hV0]; go_simp
  have x10 : V0.cell? ⟨w.heap.size, 10, none⟩ = some (.int .i64 o.node) := by rw [hV0]; go_simp
  have x11 : V0.cell? ⟨w.heap.size, 11, none⟩ = some (.int .i64 o.dead) := by rw [hV0]; go_simp
  have y0 : V0.cell? ⟨w.heap.size + 1, 0, none⟩ = some (.int .i64 0) := by rw [hV0]; go_simp
  have y1 : V0.cell? ⟨w.heap.size + 1, 1, none⟩ = some (.int .i64 0) := by rw [hV0]; go_simp
  have y2 : V0.cell? ⟨w.heap.size + 1, 2, none⟩ = some (.bool false) := by rw [hV0]; go_simp
  have y3 : V0.cell? ⟨w.heap.size + 1, 3, none⟩ = some (.int .i64 0) := by rw [hV0]; go_simp
  have y4 : V0.cell? ⟨w.heap.size + 1, 4, none⟩ = some (.slice none 0 0) := by rw [hV0]; go_simp
  have y5 : V0.cell? ⟨w.heap.size + 1, 5, none⟩ = some (.int .i64 0) := by rw [hV0]; go_simp
  have y6 : V0.cell? ⟨w.heap.size + 1, 6, none⟩ = some (.int .i64 0) := by rw [hV0]; go_simp
  have y7 : V0.cell? ⟨w.heap.size + 1, 7, none⟩ = some (.int .i64 0) := by rw [hV0]; go_simp
  have y8 : V0.cell? ⟨w.heap.size + 1, 8, none⟩ = some (.int .i64 0) := by rw [hV0]; go_simp
  have yf : ∀ f, V0.frozen? ⟨w.heap.size + 1, f, none⟩ = false := fun f => by rw [hV0]; go_simp
  have HV := Lib.hid hV0
  have HX := Lib.hid hx
  have HZQ := Lib.hid hzq
  have HLQ := Lib.hid hlq
  have HLQS := Lib.hid hlqs
  have HQ := Lib.hid hq
  have hcx : (c != 0) = true := by simp at hc ⊢; exact hc
  clear hq
  clear hop href hst hl hi hE hbV hst0 hiV hlV hV0 hx hzq hlq hlqs
  go_enter Tryd.func65, Tryd.ntmps65
  go_wp2_with fail
  refine calls_named fun Y hY => ?_
  rw [← HV.out] at hY
  obtain rfl : V0 = Y := hY.symm
  clear HV hY
  refine HOP.out.mono ?_
  rintro e u1 ⟨g1, a5, c5, rfl, hst, hg, hgl, hS, hiq⟩
  have hszS := hS.size
  have of0 : Off ⟨bs, bt, bm, gi⟩ w.heap.size := ⟨by show w.heap.size ≠ bs; omega, by show w.heap.size ≠ bm; omega, by show w.heap.size ≠ gi; omega⟩
  have of1 : Off ⟨bs, bt, bm, gi⟩ (w.heap.size + 1) := ⟨by show w.heap.size + 1 ≠ bs; omega, by show w.heap.size + 1 ≠ bm; omega, by show w.heap.size + 1 ≠ gi; omega⟩
  replace hgl := hgl (by omega)
  have x0 := hS.cell of0 x0
  have x1 := hS.cell of0 x1
  have x2 := hS.cell of0 x2
  have x3 := hS.cell of0 x3
  have x4 := hS.cell of0 x4
  have x5 := hS.cell of0 x5
  have x6 := hS.cell of0 x6
  have x7 := hS.cell of0 x7
  have x8 := hS.cell of0 x8
  have x9 := hS.cell of0 x9
  have x10 := hS.cell of0 x10
  have x11 := hS.cell of0 x11
  have y0 := hS.cell of1 y0
  have y1 := hS.cell of1 y1
  have y2 := hS.cell of1 y2
  have y3 := hS.cell of1 y3
  have y4 := hS.cell of1 y4
  have y5 := hS.cell of1 y5
  have y6 := hS.cell of1 y6
  have y7 := hS.cell of1 y7
  have y8 := hS.cell of1 y8
  have yf : ∀ f, u1.frozen? ⟨w.heap.size + 1, f, none⟩ = false := fun f => (hS.frozen (by omega) of1).trans (yf f)
  have hE1 : ErrType u1 := hS.cell (HST.out.off hEB) HE.out
  have hsz1 : w.heap.size + 1 < u1.heap.size := by omega
  have HS := Lib.hid hS
  have HST1 := Lib.hid hst
  have HIQ := Lib.hid hiq
  have HE1 := Lib.hid hE1
  clear hS hst hiq hE1 HOP HE
  go_wp2_with fail
  refine calls_named fun U hU => ?_
  have stU : Stays (fun b => b ≠ w.heap.size + 1) u1 U := by rw [hU]; exact Stays.set9 _ _ _ _ _ _ _ _ _ ⟨rfl, rfl, rfl, Nat.le_refl _, fun _ _ _ => rfl⟩ (fun h => h rfl)
  have hsU : U.heap.size = u1.heap.size := by rw [hU]; simp
  have hn0 : w.heap.size ≠ w.heap.size + 1 := by omega
  have x0 := stU.cell hn0 x0
  have x1 := stU.cell hn0 x1
  have x2 := stU.cell hn0 x2
  have x3 := stU.cell hn0 x3
  have x4 := stU.cell hn0 x4
  have x5 := stU.cell hn0 x5
  have x6 := stU.cell hn0 x6
  have x7 := stU.cell hn0 x7
  have x8 := stU.cell hn0 x8
  have x9 := stU.cell hn0 x9
  have x10 := stU.cell hn0 x10
  have x11 := stU.cell hn0 x11
  have z0 : U.cell? ⟨w.heap.size + 1, 0, none⟩ = some (.int .i64 q.id) := by rw [hU]; go_simp
  have z1 : U.cell? ⟨w.heap.size + 1, 1, none⟩ = some (.int .i64 q.prio) := by rw [hU]; go_simp
  have z2 : U.cell? ⟨w.heap.size + 1, 2, none⟩ = some (.bool q.pre) := by rw [hU]; go_simp
  have z3 : U.cell? ⟨w.heap.size + 1, 3, none⟩ = some (.int .i64 q.grace) := by rw [hU]; go_simp
  have z4 : U.cell? ⟨w.heap.size + 1, 4, none⟩ = some (.slice a5 lq c5) := by rw [hU]; go_simp
  have z5 : U.cell? ⟨w.heap.size + 1, 5, none⟩ = some (.int .i64 q.arr) := by rw [hU]; go_simp
  have z6 : U.cell? ⟨w.heap.size + 1, 6, none⟩ = some (.int .i64 q.ph) := by rw [hU]; go_simp
  have z7 : U.cell? ⟨w.heap.size + 1, 7, none⟩ = some (.int .i64 q.node) := by rw [hU]; go_simp
  have z8 : U.cell? ⟨w.heap.size + 1, 8, none⟩ = some (.int .i64 q.dead) := by rw [hU]; go_simp
  have HE2 : Hid (ErrType U) := stU.cell (by have := HST.out.bs; show 3 ≠ _; change B ≤ bs at this; omega) HE1.out
  have HST2 : Hid (StoreAt ⟨bs, bt, bm, g1⟩ B (fun b => B ≤ b ∧ (b < w.heap.size ∨ V0.heap.size ≤ b)) U size qs) :=
    HST1.out.stays stU (by show bs ≠ _; omega) (by show bt ≠ _; omega) (by show bm ≠ _; omega) (fun _ => by show g1 ≠ _; omega) (fun b _ hb => by show b ≠ _; omega)
  have HIQ2 : Hid (IntsIn (fun b => V0.heap.size ≤ b) U (.slice a5 lq c5) q.req) := HIQ.out.stays stU fun b _ hb => by show b ≠ _; omega
  have hoff : ∀ b, b < V0.heap.size → Off ⟨bs, bt, bm, gi⟩ b → Off ⟨bs, bt, bm, g1⟩ b := fun b hb h => Off.next h hb hg
  have HLV2 : Hid (PodsX (Off ⟨bs, bt, bm, g1⟩) U (.slice al lp cl) ps) := ((HLV.out.stays HS.out fun b _ hb => hb.1).stays stU fun b _ hb => by have := hb.2; show b ≠ _; omega).imp fun b _ hb => hoff b (by have := hb.2; omega) hb.1
  have HI2 : Hid (IntsIn (Off ⟨bs, bt, bm, g1⟩) U (.slice a n1 c1) o.pod.req) := ((HI.out.stays HS.out fun b _ hb => hb.1).stays stU fun b _ hb => by have := hb.2; show b ≠ _; omega).imp fun b _ hb => hoff b (by have := hb.2; omega) hb.1
  have HSU : Hid (Stays (Off ⟨bs, bt, bm, gi⟩) w U) := Stays.imp (X := fun b => Off ⟨bs, bt, bm, gi⟩ b ∧ b < w.heap.size) (((Stays.of HBV.out).trans (HS.out.imp fun b _ h => h.1)).trans (stU.imp fun b _ h => by have := h.2; show b ≠ _; omega)) fun b hb h => ⟨h, hb⟩
  clear hU
  clear yf y0 y1 y2 y3 y4 y5 y6 y7 y8 HE1 HST1 HIQ HLV HI
  refine (HREF.out g1 U HLV2.out HI2.out).mono ?_
  rintro e u2 ⟨a6, c6, rfl, hl2, hb2⟩
  have hb2s := hb2.size
  have x1 := keepl hb2 x1
  have z0 := keepl hb2 z0
  have z1 := keepl hb2 z1
  have z2 := keepl hb2 z2
  have z3 := keepl hb2 z3
  have z4 := keepl hb2 z4
  have z5 := keepl hb2 z5
  have z6 := keepl hb2 z6
  have z7 := keepl hb2 z7
  have z8 := keepl hb2 z8
  have HE3 := Lib.hid (HE2.out.below hb2)
  have HST3 := Lib.hid (StoreAt.below HST2.out hb2)
  have HIQ3 : Hid (IntsAt u2 (.slice a5 lq c5) q.req) := HIQ2.out.ints.below hb2
  have HL2 := Lib.hid hl2
  have HB2 := Lib.hid hb2
  have hwu : w.heap.size + 1 < u2.heap.size := by omega
  have hwu0 : w.heap.size < u2.heap.size := by omega
  clear x0 x2 x3 x4 x5 x6 x7 x8 x9 x10 x11 HE2 HST2 HIQ2 HLV2 HI2 HREF
  clear hb2 hl2
  go_wp2_with fail
  refine calls_named fun X3 hX3 => ?_
  have hb3 : Below u2.heap.size u2 X3 := by rw [hX3]; exact (Below.refl _ _).alloc (Nat.le_refl _) _
  have z0 := keepl hb3 z0
  have z1 := keepl hb3 z1
  have z2 := keepl hb3 z2
  have z3 := keepl hb3 z3
  have z4 := keepl hb3 z4
  have z5 := keepl hb3 z5
  have z6 := keepl hb3 z6
  have z7 := keepl hb3 z7
  have z8 := keepl hb3 z8
  have t0 : X3.cell? ⟨u2.heap.size, 0, none⟩ = some (.int .i64 0) := by rw [hX3]; go_simp
  have t1 : X3.cell? ⟨u2.heap.size, 1, none⟩ = some (.int .i64 0) := by rw [hX3]; go_simp
  have t2 : X3.cell? ⟨u2.heap.size, 2, none⟩ = some (.bool false) := by rw [hX3]; go_simp
  have t3 : X3.cell? ⟨u2.heap.size, 3, none⟩ = some (.int .i64 0) := by rw [hX3]; go_simp
  have t4 : X3.cell? ⟨u2.heap.size, 4, none⟩ = some (.slice none 0 0) := by rw [hX3]; go_simp
  have t5 : X3.cell? ⟨u2.heap.size, 5, none⟩ = some (.int .i64 0) := by rw [hX3]; go_simp
  have t6 : X3.cell? ⟨u2.heap.size, 6, none⟩ = some (.int .i64 0) := by rw [hX3]; go_simp
  have t7 : X3.cell? ⟨u2.heap.size, 7, none⟩ = some (.int .i64 0) := by rw [hX3]; go_simp
  have t8 : X3.cell? ⟨u2.heap.size, 8, none⟩ = some (.int .i64 0) := by rw [hX3]; go_simp
  have HE4 := Lib.hid (HE3.out.below hb3)
  have hAt : ∀ W, ErrType W → Calls Tryd.prog 76 #[.iface 106 (.agg #[.int .i64 c, .int .i64 0])] W fun r w' => r = .returned (.tuple #[.int .i64 0, .bool true]) ∧ Below W.heap.size W w' := fun W hW => faultAt_any (some (EV.fault c 0)) W hW
  have hCd : ∀ W, ErrType W → Calls Tryd.prog 102 #[.iface 106 (.agg #[.int .i64 c, .int .i64 0])] W fun r w' => r = .returned (.int .i64 c) ∧ Below W.heap.size W w' := fun W hW => code13_any (some (EV.fault c 0)) W hW
  have hSm : ∀ W, Below u2.heap.size u2 W → Calls Tryd.prog 67 #[.agg #[.int .i64 q.id, .int .i64 q.prio, .bool q.pre, .int .i64 q.grace, .slice a5 lq c5, .int .i64 q.arr, .int .i64 q.ph, .int .i64 q.node, .int .i64 q.dead], .agg #[.int .i64 0, .int .i64 0, .bool false, .int .i64 0, .slice none 0 0, .int .i64 0, .int .i64 0, .int .i64 0, .int .i64 0]] W fun e w' => e = .returned (.bool true) ∧ Below W.heap.size W w' := fun W hW => by
    have h := samePod_any q ⟨0, 0, false, 0, [], 0, 0, 0, 0⟩ (.slice a5 lq c5) (.slice none 0 0) W HZQ.out (by simp) (HIQ3.out.below hW) ⟨none, 0, rfl, .inl rfl⟩
    rw [decide_eq_true HQ.out] at h
    exact h
  have HAt := Lib.hid hAt; clear hAt
  have HCd := Lib.hid hCd; clear hCd
  have HSm := Lib.hid hSm; clear hSm
  have HB3 := Lib.hid hb3
  clear hX3 hb3 HE3
  refine (HAt.out _ HE4.out).mono ?_
  rintro e X4 ⟨rfl, hb4⟩
  have z0 := keepl hb4 z0
  have z1 := keepl hb4 z1
  have z2 := keepl hb4 z2
  have z3 := keepl hb4 z3
  have z4 := keepl hb4 z4
  have z5 := keepl hb4 z5
  have z6 := keepl hb4 z6
  have z7 := keepl hb4 z7
  have z8 := keepl hb4 z8
  have t0 := keepl hb4 t0
  have t1 := keepl hb4 t1
  have t2 := keepl hb4 t2
  have t3 := keepl hb4 t3
  have t4 := keepl hb4 t4
  have t5 := keepl hb4 t5
  have t6 := keepl hb4 t6
  have t7 := keepl hb4 t7
  have t8 := keepl hb4 t8
  have HE5 := Lib.hid (HE4.out.below hb4)
  have HB4 := Lib.hid (HB3.out.trans (hb4.mono HB3.out.size))
  clear hb4 HB3 HE4
  go_wp2_with fail
  refine (HCd.out _ HE5.out).mono ?_
  rintro e X5 ⟨rfl, hb5⟩
  have z0 := keepl hb5 z0
  have z1 := keepl hb5 z1
  have z2 := keepl hb5 z2
  have z3 := keepl hb5 z3
  have z4 := keepl hb5 z4
  have z5 := keepl hb5 z5
  have z6 := keepl hb5 z6
  have z7 := keepl hb5 z7
  have z8 := keepl hb5 z8
  have t0 := keepl hb5 t0
  have t1 := keepl hb5 t1
  have t2 := keepl hb5 t2
  have t3 := keepl hb5 t3
  have t4 := keepl hb5 t4
  have t5 := keepl hb5 t5
  have t6 := keepl hb5 t6
  have t7 := keepl hb5 t7
  have t8 := keepl hb5 t8
  have HB5 := Lib.hid (HB4.out.trans (hb5.mono HB4.out.size))
  clear hb5 HB4 HE5
  go_wp2_with fail
  refine (HSm.out _ HB5.out).mono ?_
  rintro e X6 ⟨rfl, hb6⟩
  have HB6 := Lib.hid (HB5.out.trans (hb6.mono HB5.out.size))
  clear hb6
  go_wp2
  go_ret2
  have hz6 := HB6.out.size
  refine ⟨_, g1, rfl, (StoreAt.below HST3.out HB6.out).imp fun b _ hb => hb.1, ((HL2.out.within.below HB6.out (Nat.le_refl _)).imp fun b _ hb => ?_), ?_, by omega, ?_⟩
  · rcases hb.1 with h | h
    · exact h
    · exact ⟨by show b ≠ bs; omega, by show b ≠ bm; omega, by show b ≠ g1; omega⟩
  · rcases hg with h | h
    · exact .inl h
    · right; omega
  · exact (HSU.out.trans (Stays.of HB2.out)).trans (Stays.of HB6.out)

end Go.Proofs.YtcegipkhmibdeaaDoor
/- play at whatever operation; what the lists of the law hold. -/
namespace Go.Proofs.YtcegipkhmibdeaaDoor
set_option linter.all false
open Go.RowKit

theorem findI_append : ∀ (ps : List Pod) (k : Nat) (np : Pod), findI ps k np.id = -1 → findI (ps ++ [np]) k np.id = ((k + ps.length : Nat) : Int)
  | [], k, np, _ => by simp [findI]
  | q :: ps, k, np, h => by
    rw [findI] at h
    by_cases hq : q.id = np.id
    · rw [if_pos hq] at h; omega
    · rw [if_neg hq] at h
      rw [List.cons_append, findI, if_neg hq, findI_append ps (k + 1) np h, List.length_cons]
      congr 1; omega
theorem findI_append_old : ∀ (ps qs : List Pod) (k : Nat) (id : Int), 0 ≤ findI ps k id → findI (ps ++ qs) k id = findI ps k id
  | [], qs, k, id, h => by simp [findI] at h
  | q :: ps, qs, k, id, h => by
    rw [List.cons_append, findI, findI]
    by_cases hq : q.id = id
    · rw [if_pos hq, if_pos hq]
    · rw [if_neg hq, if_neg hq]
      rw [findI, if_neg hq] at h
      exact findI_append_old ps qs (k + 1) id h
theorem findI_set : ∀ (ps : List Pod) (k j : Nat) (np : Pod) (id : Int), j < ps.length → np.id = (podAt ps j).id → findI (ps.set j np) k id = findI ps k id
  | [], _, _, _, _, h, _ => by simp at h
  | q :: ps, k, 0, np, id, _, h => by
    have h' : np.id = q.id := h
    rw [List.set_cons_zero, findI, findI, h']
  | q :: ps, k, j + 1, np, id, hj, h => by
    rw [List.set_cons_succ, findI, findI, findI_set ps (k + 1) j np id (by simpa using hj) h]
theorem podAt_append_old {ps qs : List Pod} {j : Nat} (h : j < ps.length) : podAt (ps ++ qs) j = podAt ps j := by
  unfold podAt; rw [List.getD_eq_getElem?_getD, List.getD_eq_getElem?_getD, List.getElem?_append_left h]
theorem podAt_append_new (ps : List Pod) (p : Pod) : podAt (ps ++ [p]) ps.length = p := by
  unfold podAt; rw [List.getD_eq_getElem?_getD, List.getElem?_append_right (by omega)]; simp
/-- What the list of a law holds after k operations. -/
structure Good (size : Int) (k : Nat) (ps : List Pod) : Prop where
  ids : IdsOk ps
  req : ∀ j, j < ps.length → (podAt ps j).req.length ≤ 20
  len : ps.length ≤ k
  fit : (ps.length : Int) ≤ size
  ph : ∀ j, j < ps.length → 1 ≤ (podAt ps j).ph ∧ (podAt ps j).ph ≤ 5
  arr : ∀ j, j < ps.length → (podAt ps j).arr = (j : Int)
theorem nx_range {x e : Int} (h : ¬ nx x e = 0) : 1 ≤ nx x e ∧ nx x e ≤ 5 := by
  revert h
  unfold nx
  repeat' split
  all_goals (first | (intro h; exact absurd rfl h) | (intro _; decide))
theorem Good.nil {size : Int} (h : 0 ≤ size) : Good size 0 [] := ⟨fun k hk => by simp at hk, fun j hj => by simp at hj, by simp, by simpa using h, fun j hj => by simp at hj, fun j hj => by simp at hj⟩
theorem Good.more {size : Int} {k : Nat} {ps : List Pod} (h : Good size k ps) : Good size (k + 1) ps := ⟨h.ids, h.req, by have := h.len; omega, h.fit, h.ph, h.arr⟩
theorem Good.small {size : Int} {k : Nat} {ps : List Pod} (h : Good size k ps) (hk : k ≤ 1000) : smallPods ps := ⟨by have := h.len; omega, fun j hj => by have := h.req j hj; omega⟩
theorem Good.ok {size : Int} {k : Nat} {ps : List Pod} (h : Good size k ps) (hk : k ≤ 1000) : PodsOk ps := ⟨h.ids, h.small hk, by have := h.len; omega⟩
theorem Good.sub {n size : Int} {k : Nat} {ps : List Pod} {p : Pod} (h : Good size k ps) (hn : size = max n 0) (hp : p.req.length ≤ 20) : Good size (k + 1) (subR ps n p).1 := by
  unfold subR
  by_cases hf : 0 ≤ findI ps 0 p.id
  · rw [if_pos hf]; exact h.more
  rw [if_neg hf]
  by_cases hs : n ≤ (ps.length : Int)
  · rw [if_pos hs]; exact h.more
  rw [if_neg hs]
  have hf' : findI ps 0 p.id = -1 := by rcases findI_bound ps 0 p.id with h | h; exact h; omega
  refine ⟨fun j hj => ?_, fun j hj => ?_, by have := h.len; simp; omega, by simp; omega, fun j hj => ?_, fun j hj => ?_⟩
  · by_cases hjl : j < ps.length
    · rw [podAt_append_old hjl, findI_append_old _ _ _ _ (by rw [h.ids j hjl]; omega)]
      exact h.ids j hjl
    · obtain rfl : j = ps.length := by simp at hj; omega
      rw [podAt_append_new, findI_append ps 0 (newPod ps p) hf']
      congr 1; omega
  · by_cases hjl : j < ps.length
    · rw [podAt_append_old hjl]; exact h.req j hjl
    · obtain rfl : j = ps.length := by simp at hj; omega
      rw [podAt_append_new]; exact hp
  · by_cases hjl : j < ps.length
    · rw [podAt_append_old hjl]; exact h.ph j hjl
    · obtain rfl : j = ps.length := by simp at hj; omega
      rw [podAt_append_new]; exact ⟨by show (1 : Int) ≤ 1; decide, by show (1 : Int) ≤ 5; decide⟩
  · by_cases hjl : j < ps.length
    · rw [podAt_append_old hjl]; exact h.arr j hjl
    · obtain rfl : j = ps.length := by simp at hj; omega
      rw [podAt_append_new]; rfl
theorem Good.app {size : Int} {k : Nat} {ps : List Pod} (h : Good size k ps) (id ev node dead : Int) : Good size (k + 1) (appR ps id ev node dead).1 := by
  unfold appR
  by_cases hf : findI ps 0 id < 0
  · rw [if_pos hf]; exact h.more
  rw [if_neg hf]
  obtain ⟨i, hi⟩ : ∃ i : Nat, findI ps 0 id = (i : Int) := ⟨(findI ps 0 id).toNat, by omega⟩
  rw [show (findI ps 0 id).toNat = i by omega]
  have hil : i < ps.length := by have := (findI_some hi).2.1; omega
  by_cases hx : nx (podAt ps i).ph ev = 0
  · rw [if_pos hx]; exact h.more
  rw [if_neg hx]
  refine ⟨fun j hj => ?_, fun j hj => ?_, by have := h.len; simp; omega, by simpa using h.fit, fun j hj => ?_, fun j hj => ?_⟩
  · rw [List.length_set] at hj
    show findI (ps.set i _) 0 (podAt (ps.set i _) j).id = (j : Int)
    rw [podAt_set hil]
    by_cases hji : j = i
    · subst hji
      rw [if_pos rfl, findI_set ps 0 j (turned (podAt ps j) ev node dead) _ hil rfl]
      exact h.ids j hj
    · rw [if_neg hji, findI_set ps 0 i (turned (podAt ps i) ev node dead) _ hil rfl]
      exact h.ids j hj
  · rw [List.length_set] at hj
    show (podAt (ps.set i _) j).req.length ≤ 20
    rw [podAt_set hil]
    by_cases hji : j = i
    · rw [if_pos hji]; exact h.req i hil
    · rw [if_neg hji]; exact h.req j hj
  · rw [List.length_set] at hj
    show 1 ≤ (podAt (ps.set i _) j).ph ∧ (podAt (ps.set i _) j).ph ≤ 5
    rw [podAt_set hil]
    by_cases hji : j = i
    · rw [if_pos hji]; exact nx_range hx
    · rw [if_neg hji]; exact h.ph j hj
  · rw [List.length_set] at hj
    show (podAt (ps.set i _) j).arr = _
    rw [podAt_set hil]
    by_cases hji : j = i
    · rw [if_pos hji, hji]; exact h.arr i hil
    · rw [if_neg hji]; exact h.arr j hj
/-- The list behind an operation. -/
def playR (n : Int) (ps : List Pod) (o : Op13) : List Pod := if o.ev = 0 then (subR ps n o.pod).1 else (appR ps o.pod.id o.ev o.node o.dead).1
theorem Good.play {n size : Int} {k : Nat} {ps : List Pod} {o : Op13} (h : Good size k ps) (hn : size = max n 0) (hp : o.pod.req.length ≤ 20) : Good size (k + 1) (playR n ps o) := by
  unfold playR
  split
  · exact h.sub hn hp
  · exact h.app _ _ _ _
theorem errV_of {c : Int} (h : ¬ c = 0) : errV (if c = 0 then none else some (.fault c 0)) = .iface 106 (.agg #[.int .i64 c, .int .i64 0]) := by rw [if_neg h]; rfl
/-- What an operation leaves, as play reads it. -/
theorem OpPost.plays {bs bt bm gi B s0 : Nat} {size : Int} {R : List Pod × Int} {q : Pod} {V : World} {e : Ending} {w' : World} (h : OpPost ⟨bs, bt, bm, gi⟩ B (fun b => B ≤ b ∧ b < s0) size R q V e w') (hB : B ≤ V.heap.size) {ev : Value} (hev : errV (if R.2 = 0 then none else some (.fault R.2 0)) = ev) :
    ∃ g' a5 c5, e = .returned (.tuple #[podV q (.slice a5 q.req.length c5), ev]) ∧ StoreAt ⟨bs, bt, bm, g'⟩ B (fun b => B ≤ b ∧ (b < s0 ∨ V.heap.size ≤ b)) w' size R.1 ∧ (g' = gi ∨ V.heap.size ≤ g') ∧ (gi < V.heap.size → g' < w'.heap.size) ∧ Stays (Off ⟨bs, bt, bm, gi⟩) V w' ∧ IntsIn (fun b => V.heap.size ≤ b) w' (.slice a5 q.req.length c5) q.req := by
  obtain ⟨g', a, cap, c', rfl, h1, h2, h3, h4, h5, h6⟩ := h
  refine ⟨g', a, cap, by rw [← hev], h1.imp fun b _ hb => ?_, h3.imp id And.left, fun h0 => ?_, h5, (ownsRow_int h6 rfl).imp fun b _ hb => by omega⟩
  · rcases hb.1 with hx | hx
    · exact ⟨hx.1.1, .inl hx.1.2⟩
    · exact ⟨by omega, .inr hx⟩
  · rcases h3 with h3 | ⟨_, h3⟩
    · have := h5.size; change g' = gi at h3; omega
    · exact h1.giLt h3
theorem play_any {m : Mem} {B : Nat} {size : Int} {ps : List Pod} {k : Nat} (n : Int) (o : Op13) (rv v : Value) (w : World) (hG : Good size k ps) (hk : k ≤ 500) (hn : size = max n 0) (hn1 : n ≤ 9223372036854775807) (hreq : o.pod.req.length ≤ 20)
    (hst : StoreAt m B (fun b => B ≤ b) w size ps) (hgi : m.gi < w.heap.size) (hl : PodsX (Off m) w v ps) (hi : IntsIn (Off m) w rv o.pod.req) (hE : ErrType w) (hEB : 3 < B) :
    Calls Tryd.prog 65 #[.pointer (some ⟨m.bs, 0, none⟩), v, .int .i64 n, op13V o rv] w (PlayOk m B size (playR n ps o) w) := by
  obtain ⟨bs, bt, bm, gi⟩ := m
  obtain ⟨al, cl, rfl⟩ := hl.pods.len
  obtain ⟨a, c1, rfl, -⟩ := id hi
  have hlen := hG.len
  have hBw : B ≤ w.heap.size := by have h1 := hst.bs; have h2 := cell_lt hst.c0; omega
  unfold playR
  by_cases hev : o.ev = 0
  · rw [if_pos hev]
    have hev' : (o.ev == 0) = true := by simp [hev]
    have hG2 := hG.sub (p := o.pod) hn hreq
    have href : ∀ g U, PodsX (Off ⟨bs, bt, bm, g⟩) U (.slice al ps.length cl) ps → IntsIn (Off ⟨bs, bt, bm, g⟩) U (.slice a o.pod.req.length c1) o.pod.req → Calls Tryd.prog 59 #[.slice al ps.length cl, .int .i64 n, podV o.pod (.slice a o.pod.req.length c1)] U fun e w' => ∃ a' c', e = .returned (.tuple #[.slice a' (subR ps n o.pod).1.length c', .int .i64 (subR ps n o.pod).2]) ∧ PodsX (fun b => Off ⟨bs, bt, bm, g⟩ b ∨ U.heap.size ≤ b) w' (.slice a' (subR ps n o.pod).1.length c') (subR ps n o.pod).1 ∧ Below U.heap.size U w' := fun g U h1 h2 =>
      (refSubmit_any o.pod _ _ ps n (Off ⟨bs, bt, bm, g⟩) U (by omega) h1 h2).mono fun e w' ⟨v', he, h3, h4⟩ => by
        obtain ⟨a', c', rfl⟩ := h3.pods.len
        exact ⟨a', c', he, h3, h4⟩
    have hop : ∀ (q : Pod) (ev : Value), (if (subR ps n o.pod).2 = 0 then newPod ps o.pod else pod0) = q → errV (if (subR ps n o.pod).2 = 0 then none else some (.fault (subR ps n o.pod).2 0)) = ev → ∀ V, Below w.heap.size w V → StoreAt ⟨bs, bt, bm, gi⟩ B (fun b => B ≤ b ∧ b < w.heap.size) V size ps → IntsAt V (.slice a o.pod.req.length c1) o.pod.req → Calls Tryd.prog 56 #[.pointer (some ⟨bs, 0, none⟩), podV o.pod (.slice a o.pod.req.length c1)] V fun e w' => ∃ g' a5 c5, e = .returned (.tuple #[podV q (.slice a5 q.req.length c5), ev]) ∧ StoreAt ⟨bs, bt, bm, g'⟩ B (fun b => B ≤ b ∧ (b < w.heap.size ∨ V.heap.size ≤ b)) w' size (subR ps n o.pod).1 ∧ (g' = gi ∨ V.heap.size ≤ g') ∧ (gi < V.heap.size → g' < w'.heap.size) ∧ Stays (Off ⟨bs, bt, bm, gi⟩) V w' ∧ IntsIn (fun b => V.heap.size ≤ b) w' (.slice a5 q.req.length c5) q.req := fun q ev hq hev V hb hs hints =>
      (ssub_any (m := ⟨bs, bt, bm, gi⟩) n o.pod _ V hn hn1 hG.fit (by omega) (by omega) hs hints (hE.below hb)).mono fun e w' h => by
        rw [hq] at h
        exact h.plays (by have := hb.size; omega) hev
    have hlq2 : (subR ps n o.pod).1.length ≤ k + 1 := hG2.len
    by_cases hc : (subR ps n o.pod).2 = 0
    · obtain ⟨hqs, hfn⟩ : (subR ps n o.pod).1 = ps ++ [newPod ps o.pod] ∧ findI ps 0 o.pod.id = -1 := by
        unfold subR at hc ⊢
        by_cases hf : 0 ≤ findI ps 0 o.pod.id
        · rw [if_pos hf] at hc; simp at hc
        rw [if_neg hf] at hc ⊢
        by_cases hs : n ≤ (ps.length : Int)
        · rw [if_pos hs] at hc; simp at hc
        rw [if_neg hs] at hc ⊢
        exact ⟨rfl, by rcases findI_bound ps 0 o.pod.id with h | h; exact h; omega⟩
      refine play_s0 (q := newPod ps o.pod) (kf := ps.length) n 0 o al a ps.length cl o.pod.req.length c1 _ _ w hev' hst hgi hl hi hE hEB (by omega) rfl rfl (by show o.pod.req.length * 8 ≤ _; omega) ?_ ?_ ?_ (hop _ _ (if_pos hc) (by rw [if_pos hc]; rfl)) ?_
      · rw [hqs]; exact (findI_append ps 0 (newPod ps o.pod) hfn).trans (by rw [Nat.zero_add])
      · rw [hqs, podAt_append_new]
      · rw [hqs]; simp
      · intro g U h1 h2
        have h := href g U h1 h2
        rw [hc] at h
        exact h
    · refine play_sn (q := ⟨0, 0, false, 0, [], 0, 0, 0, 0⟩) n (subR ps n o.pod).2 o al a ps.length cl o.pod.req.length c1 _ _ w hev' hst hgi hl hi hE hEB (by omega) rfl rfl (by simp) (by simpa using hc) rfl (hop _ _ (if_neg hc) (errV_of hc)) href
  · rw [if_neg hev]
    have hev' : (o.ev == 0) = false := by simp [hev]
    have hG2 := hG.app o.pod.id o.ev o.node o.dead
    have href : ∀ g U, PodsX (Off ⟨bs, bt, bm, g⟩) U (.slice al ps.length cl) ps → IntsIn (Off ⟨bs, bt, bm, g⟩) U (.slice a o.pod.req.length c1) o.pod.req → Calls Tryd.prog 109 #[.slice al ps.length cl, .int .i64 o.pod.id, .int .i64 o.ev, .int .i64 o.node, .int .i64 o.dead] U fun e w' => ∃ a' c', e = .returned (.tuple #[.slice a' (appR ps o.pod.id o.ev o.node o.dead).1.length c', .int .i64 (appR ps o.pod.id o.ev o.node o.dead).2]) ∧ PodsX (fun b => Off ⟨bs, bt, bm, g⟩ b ∨ U.heap.size ≤ b) w' (.slice a' (appR ps o.pod.id o.ev o.node o.dead).1.length c') (appR ps o.pod.id o.ev o.node o.dead).1 ∧ Below U.heap.size U w' := fun g U h1 h2 =>
      (refApply_any o.pod.id o.ev o.node o.dead _ ps U (Off ⟨bs, bt, bm, g⟩) (by omega) h1).mono fun e w' ⟨v', he, h3, h4⟩ => by
        obtain ⟨a', c', rfl⟩ := h3.pods.len
        exact ⟨a', c', he, h3, h4⟩
    have hgz : (getP ps o.pod.id).req.length ≤ 20 := by
      unfold getP
      by_cases hf : findI ps 0 o.pod.id < 0
      · rw [if_pos hf]; simp [pod0]
      · rw [if_neg hf]
        refine hG.req _ ?_
        rcases findI_bound ps 0 o.pod.id with h | h <;> omega
    have hop : ∀ (q : Pod) (ev : Value), (if (appR ps o.pod.id o.ev o.node o.dead).2 = 0 then turned (getP ps o.pod.id) o.ev o.node o.dead else pod0) = q → errV (if (appR ps o.pod.id o.ev o.node o.dead).2 = 0 then none else some (.fault (appR ps o.pod.id o.ev o.node o.dead).2 0)) = ev → ∀ V, Below w.heap.size w V → StoreAt ⟨bs, bt, bm, gi⟩ B (fun b => B ≤ b ∧ b < w.heap.size) V size ps → IntsAt V (.slice a o.pod.req.length c1) o.pod.req → Calls Tryd.prog 57 #[.pointer (some ⟨bs, 0, none⟩), .int .i64 o.pod.id, .int .i64 o.ev, .int .i64 o.node, .int .i64 o.dead] V fun e w' => ∃ g' a5 c5, e = .returned (.tuple #[podV q (.slice a5 q.req.length c5), ev]) ∧ StoreAt ⟨bs, bt, bm, g'⟩ B (fun b => B ≤ b ∧ (b < w.heap.size ∨ V.heap.size ≤ b)) w' size (appR ps o.pod.id o.ev o.node o.dead).1 ∧ (g' = gi ∨ V.heap.size ≤ g') ∧ (gi < V.heap.size → g' < w'.heap.size) ∧ Stays (Off ⟨bs, bt, bm, gi⟩) V w' ∧ IntsIn (fun b => V.heap.size ≤ b) w' (.slice a5 q.req.length c5) q.req := fun q ev hq hev V hb hs hints =>
      (sapp_any (m := ⟨bs, bt, bm, gi⟩) o.pod.id o.ev o.node o.dead V hs (by omega)).mono fun e w' h => by
        rw [hq] at h
        exact h.plays (by have := hb.size; omega) hev
    have hlq2 : (appR ps o.pod.id o.ev o.node o.dead).1.length ≤ k + 1 := hG2.len
    by_cases hc : (appR ps o.pod.id o.ev o.node o.dead).2 = 0
    · obtain ⟨i, hi1, hil, hqs⟩ : ∃ i : Nat, findI ps 0 o.pod.id = (i : Int) ∧ i < ps.length ∧ (appR ps o.pod.id o.ev o.node o.dead).1 = ps.set i (turned (podAt ps i) o.ev o.node o.dead) := by
        unfold appR at hc ⊢
        by_cases hf : findI ps 0 o.pod.id < 0
        · rw [if_pos hf] at hc; simp at hc
        rw [if_neg hf] at hc ⊢
        obtain ⟨i, hi1⟩ : ∃ i : Nat, findI ps 0 o.pod.id = (i : Int) := ⟨(findI ps 0 o.pod.id).toNat, by omega⟩
        rw [show (findI ps 0 o.pod.id).toNat = i by omega] at hc ⊢
        have hil : i < ps.length := by have := (findI_some hi1).2.1; omega
        by_cases hx : nx (podAt ps i).ph o.ev = 0
        · rw [if_pos hx] at hc; simp at hc
        rw [if_neg hx] at hc ⊢
        exact ⟨i, hi1, hil, rfl⟩
      have hgp : getP ps o.pod.id = podAt ps i := by unfold getP; rw [if_neg (by omega), hi1]; rfl
      refine play_a0 (q := turned (getP ps o.pod.id) o.ev o.node o.dead) (kf := i) n 0 o al a ps.length cl o.pod.req.length c1 _ _ w hev' hst hgi hl hi hE hEB (by omega) rfl rfl (by show (getP ps o.pod.id).req.length * 8 ≤ _; omega) ?_ ?_ ?_ (hop _ _ (if_pos hc) (by rw [if_pos hc]; rfl)) ?_
      · rw [hqs, findI_set ps 0 i (turned (podAt ps i) o.ev o.node o.dead) _ hil rfl]; exact hi1
      · rw [hqs, podAt_set hil, if_pos rfl, hgp]
      · rw [hqs]; simpa using hil
      · intro g U h1 h2
        have h := href g U h1 h2
        rw [hc] at h
        exact h
    · refine play_an (q := ⟨0, 0, false, 0, [], 0, 0, 0, 0⟩) n (appR ps o.pod.id o.ev o.node o.dead).2 o al a ps.length cl o.pod.req.length c1 _ _ w hev' hst hgi hl hi hE hEB (by omega) rfl rfl (by simp) (by simpa using hc) rfl (hop _ _ (if_neg hc) (errV_of hc)) href
end Go.Proofs.YtcegipkhmibdeaaDoor
/- hammocklaw13.PodPhases returns true. -/
namespace Go.Proofs.YtcegipkhmibdeaaDoor
set_option linter.all false
open Go.RowKit

/-- What a law holds between two operations. -/
structure At13 (B bs bt bm g : Nat) (size : Int) (k : Nat) (ps : List Pod) (v : Value) (w wr : World) : Prop where
  st : StoreAt ⟨bs, bt, bm, g⟩ B (fun b => B ≤ b) wr size ps
  good : Good size k ps
  list : PodsX (Off ⟨bs, bt, bm, g⟩) wr v ps
  lt : g < wr.heap.size
  below : Below B w wr
theorem At13.play {B bs bt bm g : Nat} {size : Int} {k : Nat} {ps : List Pod} {v : Value} {w wr : World} (h : At13 B bs bt bm g size k ps v w wr) {n : Int} {o : Op13} {e : Ending} {w' : World} (hp : PlayOk ⟨bs, bt, bm, g⟩ B size (playR n ps o) wr e w') (hn : size = max n 0) (ho : o.pod.req.length ≤ 20) :
    ∃ a c g', e = .returned (.tuple #[.slice a (playR n ps o).length c, .bool true]) ∧ At13 B bs bt bm g' size (k + 1) (playR n ps o) (.slice a (playR n ps o).length c) w w' := by
  obtain ⟨v', g', rfl, h1, h2, h3, h4, h5⟩ := hp
  obtain ⟨a, c, rfl⟩ := h2.pods.len
  have hB : B ≤ wr.heap.size := by have h1 := h.st.bs; have h2 := cell_lt h.st.c0; omega
  exact ⟨a, c, g', rfl, h1, h.good.play hn ho, h2, h4, h.below.trans (h5.below hB fun b hb => h.st.off hb)⟩
theorem few13_req {ops : List Op13} (h : few13P ops = true) {k : Nat} (hk : k < ops.length) : (opAt ops k).pod.req.length ≤ 20 := by
  unfold few13P at h
  simp only [Bool.and_eq_true, List.all_eq_true] at h
  have := h.1 (opAt ops k) (by rw [opAt_get hk]; exact List.getElem_mem hk)
  simp [fewOne] at this
  omega
theorem few13_len {ops : List Op13} (h : few13P ops = true) : ops.length ≤ 60 := by
  unfold few13P at h
  simp only [Bool.and_eq_true, decide_eq_true_eq] at h
  exact h.2
theorem smallPods_filter {ps : List Pod} (h : smallPods ps) (f : Pod → Bool) : smallPods (ps.filter f) := by
  refine ⟨?_, fun j hj => ?_⟩
  · have := h.1; have : (ps.filter f).length ≤ ps.length := List.length_filter_le _ _; omega
  · rw [podAt_get hj]
    have hm : (ps.filter f)[j] ∈ ps := (List.mem_filter.1 (List.getElem_mem hj)).1
    obtain ⟨i, hi, he⟩ := List.getElem_of_mem hm
    rw [← he, ← podAt_get hi]
    exact h.2 i hi
/-- How many pods have a phase from -1 up to, and without, j - 1. -/
def cntR (j : Nat) (ps : List Pod) : Int := ((ps.filter fun p => decide (-1 ≤ p.ph) && decide (p.ph < (j : Int) - 1)).length : Int)
theorem cntR_zero (ps : List Pod) : cntR 0 ps = 0 := by
  unfold cntR
  rw [List.filter_eq_nil_iff.2]
  · rfl
  · intro p _ h
    simp at h
    omega
theorem cntR_le (j : Nat) (ps : List Pod) : 0 ≤ cntR j ps ∧ cntR j ps ≤ ps.length := ⟨by unfold cntR; omega, by unfold cntR; have := List.length_filter_le (fun p : Pod => decide (-1 ≤ p.ph) && decide (p.ph < (j : Int) - 1)) ps; omega⟩
theorem cntR_step (j : Nat) (ps : List Pod) : cntR (j + 1) ps = cntR j ps + ((ps.filter (withB ((j : Int) - 1))).length : Int) := by
  unfold cntR
  induction ps with
  | nil => rfl
  | cons p ps ih =>
    simp only [List.filter_cons]
    have e : (withB ((j : Int) - 1) p = true) ↔ p.ph = (j : Int) - 1 := by simp [withB]
    by_cases h1 : p.ph = (j : Int) - 1
    · rw [if_pos (by simp; omega), if_neg (by simp; omega), if_pos (e.2 h1)]
      simp only [List.length_cons]; omega
    · rw [if_neg (fun h => h1 (e.1 h))]
      by_cases h2 : -1 ≤ p.ph ∧ p.ph < (j : Int) - 1
      · rw [if_pos (by simp; omega), if_pos (by simp; omega)]
        simp only [List.length_cons]; omega
      · rw [if_neg (by simp; omega), if_neg (by simp; omega)]
        exact ih
theorem cntR_all {ps : List Pod} (h : ∀ j, j < ps.length → 1 ≤ (podAt ps j).ph ∧ (podAt ps j).ph ≤ 5) : cntR 8 ps = ps.length := by
  unfold cntR
  rw [List.filter_eq_self.2]
  intro p hp
  obtain ⟨i, hi, rfl⟩ := List.getElem_of_mem hp
  have := h i hi
  rw [podAt_get hi] at this
  simp; omega
theorem PodsX.nil (X : Nat → Prop) (w : World) : PodsX X w (.slice none 0 0) [] := ⟨none, 0, rfl, .inl rfl⟩

set_option maxHeartbeats 8000000 in
set_option maxRecDepth 100000 in
theorem podPhases_walk (v : Value) (ops : List Op13) (w : World) (hE : ErrType w) (hx : ops.length * 96 ≤ 140737488351232) (h : OpsAt w v ops) :
    Calls Tryd.prog 15 #[v] w fun e w' => e = .returned (.bool true) ∧ Below w.heap.size w w' := by
  obtain ⟨a, cap, rfl, hcase⟩ := h
  have hE0 := hE
  have hEB : 3 < w.heap.size := hE.lt
  have HOPS : Hid (∀ k, k < ops.length → ∃ b off, a = some ⟨b, off, none⟩ ∧ b < w.heap.size ∧ ∃ rv, OpCells w b (off + k * 12) (opAt ops k) rv ∧ IntsIn (fun b => b < w.heap.size) w rv (opAt ops k).pod.req) := fun k hk => by
    rcases hcase with rfl | ⟨b, off, rfl, hlt, hc⟩
    · simp at hk
    · obtain ⟨rv, h1, h2⟩ := hc k hk
      exact ⟨b, off, rfl, hlt, rv, h1, h2.any.within.imp fun b _ hb => hb.2⟩
  have HFEW : Hid (∀ W, Below w.heap.size w W → Calls Tryd.prog 55 #[.slice a ops.length cap] W fun e w' => e = .returned (.bool (few13P ops)) ∧ Below W.heap.size W w') := fun W hW => few13_any _ ops W hx (OpsAt.below ⟨a, cap, rfl, hcase⟩ hW)
  have HAW : Hid (∀ W, Below w.heap.size w W → Calls Tryd.prog 54 #[] W fun e w' => e = .returned (.bool true) ∧ Below W.heap.size W w') := fun W hW => awake13_any W (hE.below hW)
  have hnw := pnew_any 100 w (by omega) (by omega) w.heap.size (Nat.le_refl _)
  have hbs0 : (freshMem w.heap.size).gi = (freshMem w.heap.size).bs := rfl
  generalize freshMem w.heap.size = m0 at hnw hbs0
  obtain ⟨bs, bt, bm, gi⟩ := m0
  change gi = bs at hbs0
  subst hbs0
  have HNW := Lib.hid hnw; clear hnw
  have HE := Lib.hid hE0; clear hE0 hE
  obtain ⟨l, hl⟩ : ∃ l, l = ops.length := ⟨_, rfl⟩
  rw [← hl] at HFEW hx ⊢
  have HL := Lib.hid hl; clear hl
  clear hcase
  cases hf : few13P ops
  · rw [hf] at HFEW
    go_enter Tryd.func15, Tryd.ntmps15
    go_wp2_with fail
    refine HNW.out.mono ?_
    rintro e V ⟨rfl, hst, hB, hsz⟩
    have HB := Lib.hid hB
    clear hB hst hsz
    go_wp2_with fail
    refine (HAW.out _ HB.out).mono ?_
    rintro e V1 ⟨rfl, hb⟩
    have HB := Lib.hid (HB.out.trans (hb.mono HB.out.size)); clear hb
    go_wp2_with fail
    refine (HFEW.out _ HB.out).mono ?_
    rintro e V2 ⟨rfl, hb⟩
    have HB := Lib.hid (HB.out.trans (hb.mono HB.out.size)); clear hb
    go_wp2_with fail
    refine (HAW.out _ HB.out).mono ?_
    rintro e V3 ⟨rfl, hb⟩
    have HB := Lib.hid (HB.out.trans (hb.mono HB.out.size)); clear hb
    go_wp2
    go_ret
    exact ⟨rfl, HB.out⟩
  · have HREQ : Hid (∀ k, k < ops.length → (opAt ops k).pod.req.length ≤ 20) := fun k hk => few13_req hf hk
    have hl60 : l ≤ 60 := by rw [HL.out]; exact few13_len hf
    rw [hf] at HFEW
    clear hf
    go_enter Tryd.func15, Tryd.ntmps15
    go_wp2_with fail
    refine HNW.out.mono ?_
    rintro e V ⟨rfl, hst, hB, hsz⟩
    have HB := Lib.hid hB
    have HST := Lib.hid hst
    clear hB hst hsz HNW
    go_wp2_with fail
    refine (HAW.out _ HB.out).mono ?_
    rintro e V1 ⟨rfl, hb⟩
    have HST := Lib.hid (HST.out.below hb)
    have HB := Lib.hid (HB.out.trans (hb.mono HB.out.size)); clear hb
    go_wp2_with fail
    refine (HFEW.out _ HB.out).mono ?_
    rintro e V2 ⟨rfl, hb⟩
    have HST := Lib.hid (HST.out.below hb)
    have HB := Lib.hid (HB.out.trans (hb.mono HB.out.size)); clear hb
    have HA0 : Hid (At13 w.heap.size gi bt bm gi (max 100 0) 0 [] (.slice none 0 0) w V2) := ⟨HST.out, Good.nil (by omega), PodsX.nil _ _, cell_lt HST.out.c0, HB.out⟩
    clear HAW HFEW HST HB
    go_wp2
    go_loopw [4, 5] (fun v i wr => ∃ (k : Nat) (ps : List Pod) (g : Nat) (al : Option Addr) (lp cl : Nat), k ≤ l ∧ i = .int .i64 k ∧ v = .slice al lp cl ∧ Hid (lp = ps.length) ∧ Hid (At13 w.heap.size gi bt bm g (max 100 0) k ps (.slice al lp cl) w wr)) (fun _ i _ => l - (intOf i).toNat)
    case atStart => exact ⟨0, [], gi, none, 0, 0, Nat.zero_le _, rfl, rfl, rfl, HA0.out⟩
    case round =>
      obtain ⟨k, ps, g, al, lp, cl, hk, rfl, rfl, HLP, HA⟩ := hrel
      by_cases hlt : k < l
      · obtain ⟨b, off, rfl, hbl, rv, hcc, hri⟩ := HOPS.out k (by rw [← HL.out]; exact hlt)
        have hreq := HREQ.out k (by rw [← HL.out]; exact hlt)
        generalize opAt ops k = x at *
        have hcr := hcc.below HA.out.below hbl
        have hrr : IntsIn (fun b => b < w.heap.size) wr rv x.pod.req := (hri.within.below HA.out.below (Nat.le_refl _)).imp fun b _ hb => hb.1
        obtain ⟨ar, cr, rfl, -⟩ := id hrr
        clear hcc hri
        obtain ⟨q0, ⟨q1, q2, q3, q4, q5, q6, q7, q8, q9⟩, q10, q11⟩ := hcr
        have hki : (0 : Int) ≤ (k : Int) := by omega
        have hkl : (k : Int) < (l : Int) := by omega
        have HP := Lib.hid ((play_any (m := ⟨gi, bt, bm, g⟩) 100 x (.slice ar x.pod.req.length cr) (.slice al lp cl) wr HA.out.good (by omega) rfl (by omega) hreq HA.out.st HA.out.lt HA.out.list (hrr.imp fun b _ hb => HA.out.st.off hb) (HE.out.below HA.out.below) hEB).mono fun e w' h => HA.out.play h rfl hreq)
        clear hrr hreq
        go_wp2_with fail
        refine HP.out.mono ?_
        rintro e w2 ⟨a2, c2, g2, rfl, hA2⟩
        obtain ⟨lp2, hlp2⟩ : ∃ lp2, lp2 = (playR 100 ps x).length := ⟨_, rfl⟩
        rw [← hlp2] at hA2 ⊢
        have HA2 := Lib.hid hA2
        have HLP2 := Lib.hid hlp2
        clear hA2 hlp2 HP
        go_wp2
        go_roundw
        case rel => exact ⟨k + 1, _, g2, a2, lp2, c2, by omega, by go_num, rfl, HLP2.out, HA2.out⟩
        case measure => simp [intOf]; omega
      · obtain ⟨X, rfl⟩ : ∃ X, X = wr := ⟨_, rfl⟩
        have hkl : k = l := by omega
        subst hkl
        have hok := HA.out.good.ok (by omega)
        have HOK := Lib.hid hok; clear hok
        go_wp2
        go_loopw [6, 7] (fun n p wr => ∃ j : Nat, j ≤ 8 ∧ p = .int .i64 ((j : Int) - 1) ∧ n = .int .i64 (cntR j ps) ∧ Aside (Below X.heap.size X wr)) (fun _ p _ => (7 - intOf p).toNat)
        case atStart => exact ⟨0, by omega, rfl, by rw [cntR_zero], Below.refl _ _⟩
        case round =>
          obtain ⟨j, hj, rfl, rfl, hbw⟩ := hrel
          by_cases hjl : j < 8
          · have hle : ((j : Int) - 1) ≤ 6 := by omega
            have hst := cntR_step j ps
            have hcb := cntR_le j ps
            have hfl : (ps.filter (withB ((j : Int) - 1))).length ≤ ps.length := List.length_filter_le _ _
            have hlen := HA.out.good.len
            obtain ⟨ph, hph⟩ : ∃ ph : Int, ph = (j : Int) - 1 := ⟨_, rfl⟩
            have hph0 : -1 ≤ ph := by omega
            have hph1 : ph ≤ 6 := by omega
            rw [← hph] at hst hfl hle ⊢
            have hsmf : smallPods (ps.filter (withB ph)) := smallPods_filter HOK.out.small _
            obtain ⟨lf, hlf⟩ : ∃ lf, lf = (ps.filter (withB ph)).length := ⟨_, rfl⟩
            obtain ⟨cr, hcr⟩ : ∃ cr, cr = cntR j ps := ⟨_, rfl⟩
            rw [← hlf, ← hcr] at hst
            rw [← hcr] at hcb ⊢
            rw [← hlf] at hfl
            have HW1 := Lib.hid (swith_any (m := ⟨gi, bt, bm, g⟩) ph wr (HA.out.st.below hbw.out) HOK.out)
            have HLF := Lib.hid hlf
            have HST := Lib.hid hst
            have HSM := Lib.hid hsmf
            have HB := Lib.hid hbw.out
            have hph2 : Hid (ph = (j : Int) - 1) := hph
            have hc60 : cr ≤ 60 := by omega
            have hc0 : 0 ≤ cr := by omega
            have hlf60 : (lf : Int) ≤ 60 := by omega
            clear hlf hst hsmf hbw hph hcr hcb hfl hlen
            go_wp2_with fail
            refine HW1.out.mono ?_
            rintro e w1 ⟨v1, rfl, o1, b1⟩
            obtain ⟨a1, c1, rfl⟩ := o1.shape
            rw [← HLF.out] at o1 ⊢
            have O1 := Lib.hid o1
            have HB1 := Lib.hid (HB.out.trans (b1.mono HB.out.size))
            clear o1 b1 HW1
            have HL1 : Hid (PodsX (Off ⟨gi, bt, bm, g⟩) w1 (.slice al lp cl) ps) := (HA.out.list.within.below HB1.out (Nat.le_refl _)).imp fun b _ hb => hb.1
            have HW2 := Lib.hid (refWith_any (.slice al lp cl) ps ph (Off ⟨gi, bt, bm, g⟩) w1 (by have := HOK.out.few; omega) HL1.out)
            go_wp2_with fail
            refine HW2.out.mono ?_
            rintro e w2 ⟨v2, rfl, o2, b2⟩
            obtain ⟨a2, c2, rfl⟩ := o2.shape
            rw [← HLF.out] at o2 ⊢
            have HSA : Hid (Calls Tryd.prog 63 #[.slice a1 lf c1, .slice a2 lf c2] w2 fun e w' => e = .returned (.bool true) ∧ Below w2.heap.size w2 w') := by
              have h := same06_any (.slice a1 lf c1) (.slice a2 lf c2) (ps.filter (withB ph)) (ps.filter (withB ph)) w2 HSM.out HSM.out (O1.out.pods.below b2) o2.pods
              rw [decide_eq_true rfl] at h
              exact h
            have HB2 := Lib.hid (HB1.out.trans (b2.mono HB1.out.size))
            clear o2 b2 HW2 O1 HL1
            go_wp2_with fail
            refine HSA.out.mono ?_
            rintro e w3 ⟨rfl, b3⟩
            have HB3 := Lib.hid (HB2.out.trans (b3.mono HB2.out.size))
            clear b3 HSA
            have HCN := Lib.hid (scount_any (m := ⟨gi, bt, bm, g⟩) ph w3 (HA.out.st.below HB3.out) HOK.out)
            rw [← HLF.out] at HCN
            go_wp2_with fail
            refine HCN.out.mono ?_
            rintro e w4 ⟨rfl, b4⟩
            have HB4 := Lib.hid (HB3.out.trans (b4.mono HB3.out.size))
            clear b4 HCN
            go_wp2
            go_roundw
            case rel => exact ⟨j + 1, by omega, by rw [hph2.out]; go_num, by rw [HST.out], HB4.out⟩
            case measure => have := hph2.out; simp [intOf]; omega
          · have hj8 : j = 8 := by omega
            subst hj8
            have hfin : Hid (cntR 8 ps = (lp : Int)) := by rw [cntR_all HA.out.good.ph, HLP.out]; rfl
            rw [hfin.out]
            have hlp : lp ≤ k := by rw [HLP.out]; exact HA.out.good.len
            have HLN := Lib.hid (slen_any (m := ⟨gi, bt, bm, g⟩) wr (HA.out.st.below hbw.out))
            rw [← HLP.out] at HLN
            have HB := Lib.hid (HA.out.below.trans (hbw.out.mono HA.out.below.size))
            clear hbw
            go_wp2_with fail
            refine HLN.out.mono ?_
            rintro e x ⟨rfl, rfl⟩
            go_wp2
            go_ret
            exact ⟨rfl, HB.out⟩
end Go.Proofs.YtcegipkhmibdeaaDoor
