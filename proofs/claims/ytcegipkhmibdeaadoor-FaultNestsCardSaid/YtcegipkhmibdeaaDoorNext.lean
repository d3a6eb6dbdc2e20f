/- phase.table and phase.Next: the map of the table is laid in whatever order; Next finds the phase after an event (nx), or none. -/
import Derived.Test.YtcegipkhmibdeaaDoorProg
import Derived.Test.YtcegipkhmibdeaaDoorBase
import Derived.DeepKeys4
namespace Go.Proofs.YtcegipkhmibdeaaDoor
set_option linter.all false
open Go.RowKit
abbrev K2 (p e : Int) : Value := .agg #[.int .i64 p, .int .i64 e]
theorem check_change (em : Bool) (p e : Int) (w : World) : (Instr.checkKey em 10000 119 (K2 p e)).run Tryd.prog w = .ok () w := by kernel_rfl
theorem part1 (x y : Int) (w : World) : (part 3 #[.int .i64 x, .int .i64 y] 0).run Tryd.prog w = .ok (.int .i64 x) w := by kernel_rfl
theorem part2 (x y : Int) (w : World) : (part 3 #[.int .i64 x, .int .i64 y] 1).run Tryd.prog w = .ok (.int .i64 y) w := by kernel_rfl
theorem equal_change (p e p' e' : Int) (w : World) : (Op.equal 119 (K2 p e) (K2 p' e')).run Tryd.prog w = .ok (p == p' && e == e') w := by
  have h : Tryd.prog.underlying 119 = some (.struct (Tryd.prog.fieldsOf 119)) := by kernel_rfl
  have hs : Tryd.prog.stoodInHeld 119 = false := by kernel_rfl
  unfold Op.equal Op.maxDepth
  rw [run_equalIn_struct w 9999 119 _ _ h hs]
  simp only [Program.fieldsOf, Tryd.underlying119, Op.eqFields, Sem.run_bind, Sem.run_ite, part1, part2, Result.andThen_ok, run_equalIn_int w 9998 3 .i64 .i64 _ _ Tryd.underlying3, Sem.run_pure]
  cases p == p' <;> cases e == e' <;> simp [Sem.run_pure, Op.eqFields, Result.andThen_ok]

/-- A map's entries read as a list of keys (two numbers) with numbers. -/
def Reads2 (es : List MapEntry) (l : List ((Int × Int) × Int)) : Prop := es.map (fun e => (e.key, e.val)) = l.map (fun x => (K2 x.1.1 x.1.2, .int .i64 x.2))

theorem findAsking_none (p e : Int) (w : World) : ∀ (l : List ((Int × Int) × Int)) (es : List MapEntry) (i : Nat), Reads2 es l → (∀ x ∈ l, x.1 ≠ (p, e)) →
    (Instr.findAsking 119 (K2 p e) es i).run Tryd.prog w = .ok none w := by
  intro l
  induction l with
  | nil => intro es i h _; cases es <;> simp_all [Reads2, Instr.findAsking]
  | cons x l ih =>
    intro es i h hx
    cases es with
    | nil => simp [Reads2] at h
    | cons y es =>
      simp only [Reads2, List.map_cons, List.cons.injEq, Prod.mk.injEq] at h
      have hne : (p == x.1.1 && e == x.1.2) = false := by
        have := hx x (by simp)
        simp only [Bool.and_eq_false_iff, beq_eq_false_iff_ne]
        by_cases h1 : p = x.1.1
        · right; intro h2; exact this (by rw [h1, h2])
        · left; exact h1
      simp only [Instr.findAsking, Sem.run_bind, h.1.1, equal_change, Result.andThen_ok, hne, Bool.false_eq_true, if_false]
      exact ih es (i + 1) h.2 (fun z hz => hx z (by simp [hz]))
theorem findAsking_some (p e v : Int) (w : World) : ∀ (l : List ((Int × Int) × Int)) (es : List MapEntry) (i : Nat), Reads2 es l → (∀ x ∈ l, x.1 = (p, e) → x.2 = v) → (∃ x ∈ l, x.1 = (p, e)) →
    ∃ j, (Instr.findAsking 119 (K2 p e) es i).run Tryd.prog w = .ok (some (j, .int .i64 v)) w := by
  intro l
  induction l with
  | nil => intro es i h _ hx; simp at hx
  | cons x l ih =>
    intro es i h hv hx
    cases es with
    | nil => simp [Reads2] at h
    | cons y es =>
      simp only [Reads2, List.map_cons, List.cons.injEq, Prod.mk.injEq] at h
      by_cases heq : x.1 = (p, e)
      · have h2 := hv x (by simp) heq
        refine ⟨i, ?_⟩
        have he : (p == x.1.1 && e == x.1.2) = true := by rw [heq]; simp
        simp only [Instr.findAsking, Sem.run_bind, h.1.1, equal_change, Result.andThen_ok, he, if_true, Sem.run_pure, h.1.2, h2]
      · have hne : (p == x.1.1 && e == x.1.2) = false := by
          simp only [Bool.and_eq_false_iff, beq_eq_false_iff_ne]
          by_cases h1 : p = x.1.1
          · right; intro h2; exact heq (by rw [h1, h2])
          · left; exact h1
        simp only [Instr.findAsking, Sem.run_bind, h.1.1, equal_change, Result.andThen_ok, hne, Bool.false_eq_true, if_false]
        refine ih es (i + 1) h.2 (fun z hz => hv z (by simp [hz])) ?_
        obtain ⟨z, hz, hz2⟩ := hx
        rcases List.mem_cons.1 hz with rfl | hz
        · exact absurd hz2 heq
        · exact ⟨z, hz, hz2⟩
theorem findNow_change (k : Value) (es : List MapEntry) (i : Nat) (fs) (h : es ≠ []) : Instr.findNow (.struct fs) k es i = none := by
  cases es with
  | nil => exact absurd rfl h
  | cons e es => simp [Instr.findNow, Instr.sameNow]
theorem findKey_run (p e : Int) (w : World) (es : List MapEntry) (r) (h : (Instr.findAsking 119 (K2 p e) es).run Tryd.prog w = .ok r w) :
    (Instr.findKey 119 (K2 p e) es).run Tryd.prog w = .ok r w := by
  simp only [Instr.findKey, Sem.run_bind, run_underlying Tryd.underlying119, Result.andThen_ok]
  cases es with
  | nil => 
    simp only [Instr.findAsking, Sem.run_pure, Result.ok.injEq] at h
    simp [Instr.findNow, ← h.1]
  | cons x es => rw [findNow_change _ _ _ _ (by simp)]; exact h

def tblL : List ((Int × Int) × Int) := [((1,1),3),((2,1),3),((1,2),2),((2,2),2),((2,3),1),((3,4),4),((1,5),5),((2,5),5),((3,5),5),((4,5),5)]

theorem ins_run (b : Nat) (w : World) (es : Array MapEntry) (clock : Nat) (l : List ((Int × Int) × Int)) (p e v : Int) (hb : w.heap[b]? = some (.map es clock)) (hl : Reads2 es.toList l) (hn : ∀ x ∈ l, x.1 ≠ (p, e)) :
    (Instr.mapUpdate 116 (.map (some b)) (K2 p e) (.int .i64 v)).run Tryd.prog w = .ok () { w with heap := w.heap.setIfInBounds b (.map (es.push { key := K2 p e, val := .int .i64 v, born := clock }) (clock + 1)) } := by
  have h1 := findKey_run p e w es.toList none (findAsking_none p e w l es.toList 0 hl hn)
  simp only [Instr.mapUpdate, Sem.run_bind, run_underlying Tryd.underlying116, Result.andThen_ok]
  simp only [MapKept.run_getObj_map hb, Result.andThen_ok, Sem.run_bind, check_change, h1]
  rw [MapKept.run_setObj_map _ hb]
theorem ins_wp {ops : Array Oper} {Q : Exit → Act → World → Prop} {K : Act → World → Prop} {i : Nat} {a : Act} {w : World} {k : Nat} {ps : String} {af : Array Edge} (p e v : Int)
    (ho : ops[i]? = some { dst := none, op := .insert 116 (.tmp 1) (.tmp k) (.const (.int .i64 v)), type := 0, pos := ps, after := af, guard := none })
    (b : Nat) (es : Array MapEntry) (clock : Nat) (l : List ((Int × Int) × Int)) (h1 : a.tmps.getD 1 undef = .map (some b)) (hk : a.tmps.getD k undef = K2 p e)
    (hb : w.heap[b]? = some (.map es clock)) (hl : Reads2 es.toList l) (hn : ∀ x ∈ l, x.1 ≠ (p, e))
    (hK : K a { w with heap := w.heap.setIfInBounds b (.map (es.push { key := K2 p e, val := .int .i64 v, born := clock }) (clock + 1)) }) :
    wpOp Tryd.prog ops Q i K a w := by
  unfold wpOp
  rw [ho]
  simp only [Region.wanted, if_true]
  left
  unfold Oper.wp
  simp only [execOp, Act.eval, h1, hk, Sem.run_bind]
  rw [ins_run b w es clock l p e v hb hl hn]
  exact hK


def regOps : Code → Nat → Option (Array Oper)
  | .region i ops _, k => if i = k then some ops else none
  | .seq a b, k => (regOps a k).or (regOps b k)
  | .cond _ a b, k => (regOps a k).or (regOps b k)
  | .block _ a, k => regOps a k
  | .loop a, k => regOps a k
  | .scope a, k => regOps a k
  | _, _ => none
noncomputable def tblOps : Array Oper := ((Tryd.f91.body).bind (regOps · 1)).getD #[]
theorem tbl_size : tblOps.size = 23 := by kernel_rfl
theorem tbl_op0 : tblOps[0]? = some { dst := some 1, op := .makeMap 116 none, type := 116, pos := "phase.go:20", after := #[], guard := none } := by kernel_rfl
theorem tbl_build_all : (List.range 10).map (fun j => tblOps[2 * j + 1]?) = (List.range 10).map (fun j => some ({ dst := some (j + 2), op := .build 119 #[(0, .const (.int .i64 (tblL.getD j default).1.1)), (1, .const (.int .i64 (tblL.getD j default).1.2))], type := 119, pos := "phase.go:20", after := #[], guard := none } : Oper)) := by kernel_rfl
theorem tbl_build (j : Nat) (hj : j < 10) : tblOps[2 * j + 1]? = some { dst := some (j + 2), op := .build 119 #[(0, .const (.int .i64 (tblL.getD j default).1.1)), (1, .const (.int .i64 (tblL.getD j default).1.2))], type := 119, pos := "phase.go:20", after := #[], guard := none } := List.map_inj_left.1 tbl_build_all j (List.mem_range.2 hj)
theorem tbl_insert_all : (List.range 10).map (fun j => tblOps[2 * j + 2]?) = (List.range 10).map (fun j => some ({ dst := none, op := .insert 116 (.tmp 1) (.tmp (j + 2)) (.const (.int .i64 (tblL.getD j default).2)), type := 0, pos := "phase.go:20", after := #[⟨0, .data⟩, ⟨2 * j + 1, .data⟩], guard := none } : Oper)) := by kernel_rfl
theorem tbl_insert (j : Nat) (hj : j < 10) : tblOps[2 * j + 2]? = some { dst := none, op := .insert 116 (.tmp 1) (.tmp (j + 2)) (.const (.int .i64 (tblL.getD j default).2)), type := 0, pos := "phase.go:20", after := #[⟨0, .data⟩, ⟨2 * j + 1, .data⟩], guard := none } := List.map_inj_left.1 tbl_insert_all j (List.mem_range.2 hj)
theorem tbl_op21 : tblOps[21]? = some { dst := some 12, op := .move (.tmp 1), type := 116, pos := "phase.go:20", after := ((List.range 21).map fun k => (⟨k, .data⟩ : Edge)).toArray, guard := none } := by kernel_rfl
theorem tbl_op22 : tblOps[22]? = some { dst := some 0, op := .assign (.tmp 12), type := 116, pos := "phase.go:20", after := (⟨21, .data⟩ :: ((List.range 22).map fun k => (⟨k, .phase⟩ : Edge))).toArray, guard := none } := by kernel_rfl

/-- What the region of phase.table has done so far. -/
structure TblInv (w0 : World) (listed : Array Bool) (a : Act) (w : World) : Prop where
  size : listed.size = 23
  tsize : a.tmps.size = 13
  defs : a.defers = []
  t1 : listed.getD 0 false = true → a.tmps.getD 1 undef = .map (some w0.heap.size)
  tk : ∀ j, j < 10 → listed.getD (2 * j + 1) false = true → a.tmps.getD (j + 2) undef = K2 (tblL.getD j default).1.1 (tblL.getD j default).1.2
  t12 : listed.getD 21 false = true → a.tmps.getD 12 undef = .map (some w0.heap.size)
  t0 : listed.getD 22 false = true → a.tmps.getD 0 undef = .map (some w0.heap.size)
  non : listed.getD 0 false = false → w.heap.size = w0.heap.size
  map : listed.getD 0 false = true → ∃ es clock l, w.heap[w0.heap.size]? = some (.map es clock) ∧ Reads2 es.toList l ∧ (∀ x ∈ l, ∃ j, j < 10 ∧ x = tblL.getD j default ∧ listed.getD (2 * j + 2) false = true) ∧ (∀ j, j < 10 → listed.getD (2 * j + 2) false = true → tblL.getD j default ∈ l)
  zero : listed.getD 0 false = false → ∀ j, j < 10 → listed.getD (2 * j + 2) false = false
  below : Below w0.heap.size w0 w

theorem tbl_nodup : ∀ i, i < 10 → ∀ j, j < 10 → (tblL.getD i default).1 = (tblL.getD j default).1 → i = j := by decide

theorem tbl_put {a : Act} {d : Nat} {v : Value} (hs : a.tmps.size = 13) (hd : d < 13) (k : Nat) : ((a.put (some d) v).tmps).getD k undef = if k = d then v else a.tmps.getD k undef := by
  simp only [Act.put, Array.getD_eq_getD_getElem?, Array.getElem?_setIfInBounds]
  by_cases h : k = d
  · subst h; simp [hs, hd]
  · simp [h, Ne.symm h]
theorem set_self (listed : Array Bool) (i : Nat) (h : i < listed.size) (d : Bool) : (listed.setIfInBounds i true).getD i d = true := by
  simp [Array.getD_eq_getD_getElem?, Array.getElem?_setIfInBounds, h]
theorem getD_both {listed : Array Bool} {i : Nat} (h : listed.getD i true = false) : listed.getD i false = false := by
  rw [Array.getD_eq_getD_getElem?] at h ⊢
  cases hh : listed[i]? <;> simp_all

theorem ready_cases {listed : Array Bool} {i : Nat} (hi : i ∈ Region.ready .any tblOps listed) : i = 0 ∨ (∃ j, j < 10 ∧ i = 2 * j + 1) ∨ (∃ j, j < 10 ∧ i = 2 * j + 2) ∨ i = 21 ∨ i = 22 := by
  have h := List.mem_range.1 (List.mem_filter.1 hi).1
  rw [tbl_size] at h
  by_cases h0 : i = 0
  · exact .inl h0
  by_cases h1 : i = 21
  · exact .inr (.inr (.inr (.inl h1)))
  by_cases h2 : i = 22
  · exact .inr (.inr (.inr (.inr h2)))
  by_cases h3 : i % 2 = 1
  · exact .inr (.inl ⟨i / 2, by omega, by omega⟩)
  · exact .inr (.inr (.inl ⟨i / 2 - 1, by omega, by omega⟩))

theorem TblInv.step {w0 : World} {listed : Array Bool} {a : Act} {w : World} {Q : Exit → Act → World → Prop} {i : Nat} (h : TblInv w0 listed a w) (hi : i ∈ Region.ready .any tblOps listed) :
    wpOp Tryd.prog tblOps Q i (TblInv w0 (listed.setIfInBounds i true)) a w := by
  obtain ⟨hs, hts, hdf, h1, hk, h12, ht0, hnon, hmap, hzero, hbel⟩ := h
  obtain ⟨hnot, o, ho, hedge⟩ := mem_ready.1 hi
  have hne : ∀ k, k ≠ i → (listed.setIfInBounds i true).getD k false = listed.getD k false := fun k hk => getD_set_ne _ (Ne.symm hk)
  rcases ready_cases hi with rfl | ⟨j, hj, rfl⟩ | ⟨j, hj, rfl⟩ | rfl | rfl
  · -- the map is made
    have hself := set_self listed 0 (by omega) false
    have hz := getD_both hnot
    refine yields_wp tbl_op0 rfl (.map (some w.heap.size)) (w' := w.alloc (.map #[] 0)) (by simp [execOp, Sem.run_bind]; rw [run_makeMap]; rfl) ?_
    rw [hnon hz] 
    refine ⟨by simpa using hs, by simpa [Act.put] using hts, hdf, ?_, ?_, ?_, ?_, ?_, ?_, ?_, ?_⟩
    · intro _; rw [tbl_put hts (by omega)]; rfl
    · intro j hj hl; rw [hne _ (by omega)] at hl; rw [tbl_put hts (by omega), if_neg (by omega)]; exact hk j hj hl
    · intro hl; rw [hne _ (by omega)] at hl; rw [tbl_put hts (by omega), if_neg (by omega)]; exact h12 hl
    · intro hl; rw [hne _ (by omega)] at hl; rw [tbl_put hts (by omega), if_neg (by omega)]; exact ht0 hl
    · intro hl; rw [hself] at hl; cases hl
    · intro _
      refine ⟨#[], 0, [], ?_, rfl, by simp, ?_⟩
      · show (w.heap.push _)[_]? = _
        rw [← hnon hz]; simp
      · intro j hj hl; rw [hne _ (by omega), hzero hz j hj] at hl; cases hl
    · intro hl; rw [hself] at hl; cases hl
    · exact hbel.alloc hbel.size _
  · -- a key
    have hop := tbl_build j hj
    refine yields_wp hop rfl (K2 (tblL.getD j default).1.1 (tblL.getD j default).1.2) (w' := w) (by kernel_rfl) ?_
    refine ⟨by simpa using hs, by simpa [Act.put] using hts, hdf, ?_, ?_, ?_, ?_, ?_, ?_, ?_, hbel⟩
    · intro hl; rw [hne _ (by omega)] at hl; rw [tbl_put hts (by omega), if_neg (by omega)]; exact h1 hl
    · intro j' hj' hl
      rw [tbl_put hts (by omega)]
      by_cases hjj : j' = j
      · subst hjj; simp
      · rw [hne _ (by omega)] at hl; rw [if_neg (by omega)]; exact hk j' hj' hl
    · intro hl; rw [hne _ (by omega)] at hl; rw [tbl_put hts (by omega), if_neg (by omega)]; exact h12 hl
    · intro hl; rw [hne _ (by omega)] at hl; rw [tbl_put hts (by omega), if_neg (by omega)]; exact ht0 hl
    · intro hl; rw [hne _ (by omega)] at hl; exact hnon hl
    · intro hl; rw [hne _ (by omega)] at hl
      obtain ⟨es, clock, l, a1, a2, a3, a4⟩ := hmap hl
      exact ⟨es, clock, l, a1, a2, fun x hx => by obtain ⟨j', b1, b2, b3⟩ := a3 x hx; exact ⟨j', b1, b2, by rw [hne _ (by omega)]; exact b3⟩, fun j' hj' hl' => a4 j' hj' (by rw [hne _ (by omega)] at hl'; exact hl')⟩
    · intro hl j' hj'; rw [hne _ (by omega)] at hl ⊢; exact hzero hl j' hj'
  · -- an entry
    have hop := tbl_insert j hj
    rw [hop] at ho
    have he0 := hedge ⟨0, .data⟩ (by rw [← Option.some.inj ho]; simp) rfl
    have hek := hedge ⟨2 * j + 1, .data⟩ (by rw [← Option.some.inj ho]; simp) rfl
    have hself := set_self listed (2 * j + 2) (by omega) false
    obtain ⟨es, clock, l, hb, hl, hl1, hl2⟩ := hmap he0
    refine ins_wp _ _ _ hop w0.heap.size es clock l (h1 he0) (hk j hj hek) hb hl ?_ ?_
    · intro x hx heq
      obtain ⟨i, hi, rfl, hli⟩ := hl1 x hx
      have := tbl_nodup i hi j hj heq
      subst this
      rw [getD_both hnot] at hli; cases hli
    · have hlt : w0.heap.size < w.heap.size := (Array.getElem?_eq_some_iff.1 hb).1
      refine ⟨by simpa using hs, hts, hdf, ?_, ?_, ?_, ?_, ?_, ?_, ?_, ?_⟩
      · intro _; exact h1 he0
      · intro j' hj' hl'; rw [hne _ (by omega)] at hl'; exact hk j' hj' hl'
      · intro hl'; rw [hne _ (by omega)] at hl'; exact h12 hl'
      · intro hl'; rw [hne _ (by omega)] at hl'; exact ht0 hl'
      · intro hl'; rw [hne _ (by omega), he0] at hl'; cases hl'
      · intro _
        refine ⟨es.push { key := K2 (tblL.getD j default).1.1 (tblL.getD j default).1.2, val := .int .i64 (tblL.getD j default).2, born := clock }, clock + 1, l ++ [tblL.getD j default], ?_, ?_, ?_, ?_⟩
        · show (w.heap.setIfInBounds _ _)[_]? = _
          rw [Array.getElem?_setIfInBounds, if_pos rfl, if_pos hlt]
        · simp only [Reads2, Array.toList_push, List.map_append, List.map_cons, List.map_nil] at hl ⊢; rw [hl]
        · intro x hx
          rcases List.mem_append.1 hx with hx | hx
          · obtain ⟨i, hi, h1, h2⟩ := hl1 x hx
            refine ⟨i, hi, h1, ?_⟩
            by_cases hij : i = j
            · subst hij; exact hself
            · rw [hne _ (by omega)]; exact h2
          · exact ⟨j, hj, List.mem_singleton.1 hx, hself⟩
        · intro i hi h2
          by_cases hij : i = j
          · subst hij; exact List.mem_append_right _ (List.mem_singleton.2 rfl)
          · rw [hne _ (by omega)] at h2; exact List.mem_append_left _ (hl2 i hi h2)
      · intro hl'; rw [hne _ (by omega), he0] at hl'; cases hl'
      · exact ⟨hbel.os, hbel.tape, hbel.output, by simpa using hbel.size, fun k hk => by
          show (w.heap.setIfInBounds _ _)[k]? = _
          rw [Array.getElem?_setIfInBounds, if_neg (by omega)]; exact hbel.block k hk⟩
  · -- the map is named
    have hop := tbl_op21
    rw [hop] at ho
    have he0 := hedge ⟨0, .data⟩ (by rw [← Option.some.inj ho]; simp) rfl
    refine yields_wp hop rfl (.map (some w0.heap.size)) (w' := w) (by simp [execOp, Act.eval, h1 he0]) ?_
    refine ⟨by simpa using hs, by simpa [Act.put] using hts, hdf, ?_, ?_, ?_, ?_, ?_, ?_, ?_, hbel⟩
    · intro hl; rw [hne _ (by omega)] at hl; rw [tbl_put hts (by omega), if_neg (by omega)]; exact h1 hl
    · intro j' hj' hl; rw [hne _ (by omega)] at hl; rw [tbl_put hts (by omega), if_neg (by omega)]; exact hk j' hj' hl
    · intro _; rw [tbl_put hts (by omega)]; rfl
    · intro hl; rw [hne _ (by omega)] at hl; rw [tbl_put hts (by omega), if_neg (by omega)]; exact ht0 hl
    · intro hl; rw [hne _ (by omega)] at hl; exact hnon hl
    · intro hl; rw [hne _ (by omega)] at hl
      obtain ⟨es, clock, l, a1, a2, a3, a4⟩ := hmap hl
      exact ⟨es, clock, l, a1, a2, fun x hx => by obtain ⟨j', b1, b2, b3⟩ := a3 x hx; exact ⟨j', b1, b2, by rw [hne _ (by omega)]; exact b3⟩, fun j' hj' hl' => a4 j' hj' (by rw [hne _ (by omega)] at hl'; exact hl')⟩
    · intro hl j' hj'; rw [hne _ (by omega)] at hl ⊢; exact hzero hl j' hj'
  · -- the result
    have hop := tbl_op22
    rw [hop] at ho
    have he0 := hedge ⟨21, .data⟩ (by rw [← Option.some.inj ho]; simp) rfl
    refine yields_wp hop rfl (.map (some w0.heap.size)) (w' := w) (by simp [execOp, Act.eval, h12 he0]) ?_
    refine ⟨by simpa using hs, by simpa [Act.put] using hts, hdf, ?_, ?_, ?_, ?_, ?_, ?_, ?_, hbel⟩
    · intro hl; rw [hne _ (by omega)] at hl; rw [tbl_put hts (by omega), if_neg (by omega)]; exact h1 hl
    · intro j' hj' hl; rw [hne _ (by omega)] at hl; rw [tbl_put hts (by omega), if_neg (by omega)]; exact hk j' hj' hl
    · intro hl; rw [hne _ (by omega)] at hl; rw [tbl_put hts (by omega), if_neg (by omega)]; exact h12 hl
    · intro _; rw [tbl_put hts (by omega)]; rfl
    · intro hl; rw [hne _ (by omega)] at hl; exact hnon hl
    · intro hl; rw [hne _ (by omega)] at hl
      obtain ⟨es, clock, l, a1, a2, a3, a4⟩ := hmap hl
      exact ⟨es, clock, l, a1, a2, fun x hx => by obtain ⟨j', b1, b2, b3⟩ := a3 x hx; exact ⟨j', b1, b2, by rw [hne _ (by omega)]; exact b3⟩, fun j' hj' hl' => a4 j' hj' (by rw [hne _ (by omega)] at hl'; exact hl')⟩
    · intro hl j' hj'; rw [hne _ (by omega)] at hl ⊢; exact hzero hl j' hj'

theorem TblInv.all {w0 : World} {listed : Array Bool} {a : Act} {w : World} (h : TblInv w0 listed a w) (hr : Region.ready .any tblOps listed = []) : ∀ k, k < 23 → listed.getD k false = true := by
  have key : ∀ k, k < 23 → (∀ o, tblOps[k]? = some o → ∀ e ∈ o.after, Region.binds .any e = true → listed.getD e.on false = true) → listed.getD k false = true := by
    intro k hk he
    have hnm : k ∉ Region.ready .any tblOps listed := by rw [hr]; simp
    have hsz : k < tblOps.size := by rw [tbl_size]; exact hk
    rw [mem_ready] at hnm
    have hl : k < listed.size := by rw [h.size]; exact hk
    rw [Array.getD_eq_getD_getElem?] at hnm ⊢
    rw [Array.getElem?_eq_getElem hl] at hnm ⊢
    cases hb : listed[k] with
    | true => rfl
    | false => exact absurd ⟨by rw [hb]; rfl, tblOps[k], Array.getElem?_eq_getElem hsz, he _ (Array.getElem?_eq_getElem hsz)⟩ hnm
  have k0 : listed.getD 0 false = true := key 0 (by omega) (fun o ho => by rw [tbl_op0] at ho; rw [← Option.some.inj ho]; simp)
  have kb : ∀ j, j < 10 → listed.getD (2 * j + 1) false = true := fun j hj => key _ (by omega) (fun o ho => by have hop := tbl_build j hj; rw [hop] at ho; rw [← Option.some.inj ho]; simp)
  have ki : ∀ j, j < 10 → listed.getD (2 * j + 2) false = true := fun j hj => key _ (by omega) (fun o ho e he _ => by
    have hop := tbl_insert j hj; rw [hop] at ho; rw [← Option.some.inj ho] at he
    simp at he
    rcases he with rfl | rfl
    · exact k0
    · exact kb j hj)
  have kall : ∀ k, k < 21 → listed.getD k false = true := by
    intro k hk
    by_cases h0 : k = 0
    · subst h0; exact k0
    by_cases h3 : k % 2 = 1
    · have := kb (k / 2) (by omega); rwa [show 2 * (k / 2) + 1 = k by omega] at this
    · have := ki (k / 2 - 1) (by omega); rwa [show 2 * (k / 2 - 1) + 2 = k by omega] at this
  have k21 : listed.getD 21 false = true := key 21 (by omega) (fun o ho e he _ => by
    have hop := tbl_op21; rw [hop] at ho; rw [← Option.some.inj ho] at he
    simp at he
    obtain ⟨k, hk, rfl⟩ := he
    exact kall k hk)
  have k22 : listed.getD 22 false = true := key 22 (by omega) (fun o ho e he _ => by
    have hop := tbl_op22; rw [hop] at ho; rw [← Option.some.inj ho] at he
    simp only [List.mem_toArray, List.mem_cons, List.mem_map, List.mem_range] at he
    rcases he with rfl | ⟨k, hk, rfl⟩
    · exact k21
    · by_cases hk' : k = 21
      · subst hk'; exact k21
      · exact kall k (by omega))
  intro k hk
  by_cases h1 : k = 21
  · subst h1; exact k21
  by_cases h2 : k = 22
  · subst h2; exact k22
  exact kall k (by omega)

def TblAt (w : World) (b : Nat) : Prop := ∃ es clock l, w.heap[b]? = some (.map es clock) ∧ Reads2 es.toList l ∧ ∀ x, x ∈ l ↔ x ∈ tblL

theorem table_region (w : World) (ops : Array Oper) (hops : ops = tblOps) (Q : Exit → Act → World → Prop) (a : Act) (hsz : a.tmps.size = 13) (hd : a.defers = [])
    (hQ : ∀ a' w', a'.tmps.size = 13 → a'.defers = [] → a'.tmps.getD 0 undef = .map (some w.heap.size) → TblAt w' w.heap.size → Below w.heap.size w w' → Q .normal a' w') :
    (Code.region 1 ops true).wp Tryd.prog Q a w := by
  subst hops
  refine wp_region_any (by kernel_rfl) ?_
  refine wpAny_inv (TblInv w) (fun l a w h => by rw [h.size, tbl_size]) (fun l a w i h hi => h.step hi) ?_ _ _ _ _ ?_ ?_
  · intro l a' w' h hr
    have hall := h.all hr
    refine hQ a' w' h.tsize h.defs (h.t0 (hall 22 (by omega))) ?_ h.below
    obtain ⟨es, clock, l', h1, h2, h3, h4⟩ := h.map (hall 0 (by omega))
    refine ⟨es, clock, l', h1, h2, fun x => ⟨fun hx => ?_, fun hx => ?_⟩⟩
    · obtain ⟨j, hj, rfl, _⟩ := h3 x hx
      have hj' : j < tblL.length := hj
      rw [List.getD_eq_getElem?_getD, List.getElem?_eq_getElem hj']
      exact List.getElem_mem _
    · obtain ⟨j, hj, rfl⟩ := List.mem_iff_getElem.1 hx
      have := h4 j hj (hall _ (by have : j < 10 := hj; omega))
      rw [List.getD_eq_getElem?_getD, List.getElem?_eq_getElem hj] at this
      exact this
  · have hf : ∀ k, (Array.replicate tblOps.size false).getD k false = false := by
      intro k; rw [Array.getD_eq_getD_getElem?, Array.getElem?_replicate]; split <;> rfl
    refine ⟨by simp [tbl_size], hsz, hd, ?_, ?_, ?_, ?_, fun _ => rfl, ?_, fun _ _ _ => hf _, (Below.refl _ _).drew⟩
    all_goals (intros; simp_all)
  · unfold unlisted; rw [← Array.length_toList]
    have := List.countP_le_length (p := fun b : Bool => !b) (l := (Array.replicate tblOps.size false).toList)
    simpa using this

set_option maxRecDepth 100000 in
theorem table_any (w : World) : Calls Tryd.prog 91 #[] w fun e w' => e = .returned (.map (some w.heap.size)) ∧ TblAt w' w.heap.size ∧ Below w.heap.size w w' := by
  go_enter Tryd.func91, Tryd.ntmps91
  go_wp2
  refine table_region w _ (by kernel_rfl) _ _ rfl rfl ?_
  intro a' w' h1 h2 h3 h4 h5
  rename_i Qp K hK
  refine hK a' w' (wp_ret ?_)
  refine bodyPost_ret (v := .map (some w.heap.size)) ?_ h2 ⟨rfl, h4, h5⟩
  rw [Array.getD_eq_getD_getElem?] at h3
  simpa [results, Tryd.results91, go_sem] using h3

/-- The phase after an event, 0 if the event does not apply. -/
def nx (p e : Int) : Int :=
  if e = 1 then (if p = 1 ∨ p = 2 then 3 else 0) else if e = 2 then (if p = 1 ∨ p = 2 then 2 else 0) else if e = 3 then (if p = 2 then 1 else 0)
  else if e = 4 then (if p = 3 then 4 else 0) else if e = 5 then (if 1 ≤ p ∧ p ≤ 4 then 5 else 0) else 0
theorem nx_mem {p e : Int} (h : nx p e ≠ 0) : ((p, e), nx p e) ∈ tblL := by
  unfold nx at h ⊢
  unfold tblL
  split at h
  · subst e; split at h
    · rcases ‹p = 1 ∨ p = 2› with rfl | rfl <;> decide
    · exact absurd rfl h
  split at h
  · subst e; split at h
    · rcases ‹p = 1 ∨ p = 2› with rfl | rfl <;> decide
    · exact absurd rfl h
  split at h
  · subst e; split at h
    · subst p; decide
    · exact absurd rfl h
  split at h
  · subst e; split at h
    · subst p; decide
    · exact absurd rfl h
  split at h
  · subst e; split at h
    · have : p = 1 ∨ p = 2 ∨ p = 3 ∨ p = 4 := by omega
      rcases this with rfl | rfl | rfl | rfl <;> decide
    · exact absurd rfl h
  · exact absurd rfl h
theorem nx_of_mem {p e v : Int} (h : ((p, e), v) ∈ tblL) : nx p e = v ∧ v ≠ 0 := by
  simp only [tblL, List.mem_cons, Prod.mk.injEq, List.not_mem_nil, or_false] at h
  rcases h with ⟨⟨rfl, rfl⟩, rfl⟩ | ⟨⟨rfl, rfl⟩, rfl⟩ | ⟨⟨rfl, rfl⟩, rfl⟩ | ⟨⟨rfl, rfl⟩, rfl⟩ | ⟨⟨rfl, rfl⟩, rfl⟩ | ⟨⟨rfl, rfl⟩, rfl⟩ | ⟨⟨rfl, rfl⟩, rfl⟩ | ⟨⟨rfl, rfl⟩, rfl⟩ | ⟨⟨rfl, rfl⟩, rfl⟩ | ⟨⟨rfl, rfl⟩, rfl⟩ <;> decide
theorem tbl_lookup (p e : Int) (w : World) (b : Nat) (h : TblAt w b) : (Instr.lookup 116 (.map (some b)) (K2 p e) true).run Tryd.prog w = .ok (.tuple #[.int .i64 (nx p e), .bool (nx p e != 0)]) w := by
  obtain ⟨es, clock, l, hb, hl, hm⟩ := h
  have hz : (zeroValue 3).run Tryd.prog w = .ok (.int .i64 0) w := by kernel_rfl
  simp only [Instr.lookup, Sem.run_bind, run_underlying Tryd.underlying116, Result.andThen_ok, MapKept.run_getObj_map hb, Sem.run_pure, check_change]
  by_cases h0 : nx p e = 0
  · have hn := findKey_run p e w es.toList none (findAsking_none p e w l es.toList 0 hl (fun x hx he => by
      have h2 := nx_of_mem (p := p) (e := e) (v := x.2) (by rw [← he]; exact (hm x).1 hx)
      exact h2.2 (h2.1 ▸ h0)))
    simp [hn, hz, h0, Result.andThen_ok]
  · obtain ⟨j, hj⟩ := findAsking_some p e (nx p e) w l es.toList 0 hl (fun x hx he => by
      have h2 := nx_of_mem (p := p) (e := e) (v := x.2) (by rw [← he]; exact (hm x).1 hx)
      exact h2.1.symm) ⟨((p, e), nx p e), (hm _).2 (nx_mem h0), rfl⟩
    have hn := findKey_run p e w es.toList _ hj
    simp [hn, h0, Result.andThen_ok]

theorem next_any (p e : Int) (w : World) : Calls Tryd.prog 24 #[.int .i64 p, .int .i64 e] w fun r w' => r = .returned (.tuple #[.int .i64 (nx p e), .bool (nx p e != 0)]) ∧ Below w.heap.size w w' := by
  go_enter Tryd.func24, Tryd.ntmps24
  go_wp2_with (go_at_call 91; refine (table_any _).mono ?_; rintro e1 w' ⟨rfl, ht, hb⟩; have hl := tbl_lookup p e w' _ ht)
  go_ret2
  exact ⟨rfl, hb⟩
end Go.Proofs.YtcegipkhmibdeaaDoor
