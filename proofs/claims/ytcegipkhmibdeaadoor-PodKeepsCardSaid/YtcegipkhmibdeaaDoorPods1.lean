/- What the Pod laws share, part 1: Base, Next, Phase, PhaseRun, Door, Clone, Op, As, OpDoor, Vec, Named, PodA, PodB, PodC, RowAt, OpPlain, OpRef, OpEq, OpSame, OpSame2, PodD. -/
import Derived.WalkKit
import Derived.Test.YtcegipkhmibdeaaDoorProg
import Derived.DeepKeys4
import Derived.WalkSpells
import Derived.WalkLawsBesides
import Derived.Deep.Cut
import Derived.Deep.LoopGhost
import Derived.Lib.Hide
import Derived.Test.YtcegipkhmibdeaaDoorRows
import Derived.ProofKit
import Derived.LaidMore
import Derived.OpenShut
import Derived.Stop.Joined
import Derived.SizedLaws
import Derived.Maps.AppendAt
import Derived.Deep.RegionWith
import Derived.LaidEql
import Derived.Stop.Asserts
import Derived.RowKitTokens
import Derived.LaidHandle
import Derived.Lib.SmallJoins
import Derived.Deep.QuietTactic
import Derived.BigQuiet
import Derived.Deep.RegionHeld3
import Derived.Deep.DeepFit
import Derived.Laws.OwnMore
/- General lemmas of this seat's proofs: a region that draws its order, by an invariant over what has been done. -/
namespace Go.Proofs.YtcegipkhmibdeaaDoor
set_option linter.all false
open Go.RowKit
/-- How many places are not yet marked. -/
def unlisted (listed : Array Bool) : Nat := listed.toList.countP (fun b => !b)

theorem unlisted_set (listed : Array Bool) (i : Nat) (h : i < listed.size) (hf : listed[i] = false) : unlisted (listed.setIfInBounds i true) + 1 = unlisted listed := by
  unfold unlisted
  have e : (listed.setIfInBounds i true).toList = listed.toList.set i true := by simp [Array.setIfInBounds, h]
  rw [e]
  have hl : i < listed.toList.length := by simpa using h
  have hf' : listed.toList[i] = false := by simpa using hf
  have hpos : 0 < listed.toList.countP (fun b => !b) := List.countP_pos_iff.2 ⟨listed.toList[i], List.getElem_mem hl, by rw [hf']; rfl⟩
  rw [List.countP_set hl, hf']
  simp only [Bool.not_false, Bool.not_true, if_true, Bool.false_eq_true, if_false]
  omega

/-- A region that draws its order, by an invariant over what has been done. -/
theorem wpAny_inv {P : Program} {md : Region.Mode} {ops : Array Oper} {Q : Exit → Act → World → Prop} (I : Array Bool → Act → World → Prop)
    (hsize : ∀ listed a w, I listed a w → listed.size = ops.size)
    (hstep : ∀ listed a w i, I listed a w → i ∈ Region.ready md ops listed → wpOp P ops Q i (I (listed.setIfInBounds i true)) a w)
    (hend : ∀ listed a w, I listed a w → Region.ready md ops listed = [] → Q .normal a w) :
    ∀ fuel listed a w, I listed a w → unlisted listed ≤ fuel → wpAny P md ops Q fuel listed a w := by
  intro fuel
  induction fuel with
  | zero =>
    intro listed a w hI hf
    have hr : Region.ready md ops listed = [] := by
      apply List.eq_nil_iff_forall_not_mem.2
      intro i hi
      have hm := List.mem_filter.1 hi
      have h1 : i < ops.size := List.mem_range.1 hm.1
      have hsz := hsize _ _ _ hI
      have h2 : listed.getD i true = false := by
        have := hm.2; simp only [Bool.and_eq_true, Bool.not_eq_true'] at this; exact this.1
      have h3 : listed[i]'(by omega) = false := by rw [Array.getD_eq_getD_getElem?, Array.getElem?_eq_getElem (by omega)] at h2; simpa using h2
      have := unlisted_set listed i (by omega) h3
      omega
    exact ⟨hr, hend _ _ _ hI hr⟩
  | succ fuel ih =>
    intro listed a w hI hf
    refine ⟨hend _ _ _ hI, fun i hi => ?_⟩
    have hm := List.mem_filter.1 hi
    have h1 : i < ops.size := List.mem_range.1 hm.1
    have hsz := hsize _ _ _ hI
    have h2 : listed.getD i true = false := by
      have := hm.2; simp only [Bool.and_eq_true, Bool.not_eq_true'] at this; exact this.1
    have h3 : listed[i]'(by omega) = false := by rw [Array.getD_eq_getD_getElem?, Array.getElem?_eq_getElem (by omega)] at h2; simpa using h2
    have hu := unlisted_set listed i (by omega) h3
    exact wpOp_mono (fun a w h => ih _ a w h (by omega)) (hstep _ _ _ _ hI hi)

theorem yields_wp {P : Program} {ops : Array Oper} {Q : Exit → Act → World → Prop} {K : Act → World → Prop} {i : Nat} {a : Act} {w w' : World} {o : Oper} (ho : ops[i]? = some o) (hg : o.guard = none) (v : Value)
    (hrun : (execOp a.eval o).run P w = .ok (.value v) w') (hK : K (a.put o.dst v) w') : wpOp P ops Q i K a w := by
  unfold wpOp
  rw [ho]
  simp only [Region.wanted, hg, if_true]
  left
  unfold Oper.wp
  rw [hrun]
  exact hK

end Go.Proofs.YtcegipkhmibdeaaDoor
/- phase.table and phase.Next: the map of the table is laid in whatever order; Next finds the phase after an event (nx), or none. -/
namespace Go.Proofs.YtcegipkhmibdeaaDoor
set_option linter.all false
open Go.RowKit
abbrev K2 (p e : Int) : Value := .agg #[.int .i64 p, .int .i64 e]
theorem check_change (em : Bool) (p e : Int) (w : World) : (Instr.checkKey em 10000 119 (K2 p e)).run Tryd.prog w = .ok () w := by kernel_rfl
theorem part1 (x y : Int) (w : World) : (part 3 #[.int .i64 x, .int .i64 y] 0).run Tryd.prog w = .ok (.int .i64 x) w := by kernel_rfl
theorem part2 (x y : Int) (w : World) : (part 3 #[.int .i64 x, .int .i64 y] 1).run Tryd.prog w = .ok (.int .i64 y) w := by kernel_rfl
theorem equal_change (p e p' e' : Int) (w : World) : (Op.equal 119 (K2 p e) (K2 p' e')).run Tryd.prog w = .ok (p == p' && e == e') w := by
  have h : Tryd.prog.underlying 119 = some (.struct (Tryd.prog.fieldsOf 119)) := by kernel_rfl
  have hs : Tryd.prog.stoodInHeld 119 = false := by kernel_rfl
  unfold Op.equal Op.maxDepth
  rw [run_equalIn_struct w 9999 119 _ _ h hs]
  simp only [Program.fieldsOf, Tryd.underlying119, Op.eqFields, Sem.run_bind, Sem.run_ite, part1, part2, Result.andThen_ok, run_equalIn_int w 9998 3 .i64 .i64 _ _ Tryd.underlying3, Sem.run_pure]
  cases p == p' <;> cases e == e' <;> simp [Sem.run_pure, Op.eqFields, Result.andThen_ok]

/-- A map's entries read as a list of keys (two numbers) with numbers. -/
def Reads2 (es : List MapEntry) (l : List ((Int × Int) × Int)) : Prop := es.map (fun e => (e.key, e.val)) = l.map (fun x => (K2 x.1.1 x.1.2, .int .i64 x.2))

theorem findAsking_none (p e : Int) (w : World) : ∀ (l : List ((Int × Int) × Int)) (es : List MapEntry) (i : Nat), Reads2 es l → (∀ x ∈ l, x.1 ≠ (p, e)) →
    (Instr.findAsking 119 (K2 p e) es i).run Tryd.prog w = .ok none w := by
  intro l
  induction l with
  | nil => intro es i h _; cases es <;> simp_all [Reads2, Instr.findAsking]
  | cons x l ih =>
    intro es i h hx
    cases es with
    | nil => simp [Reads2] at h
    | cons y es =>
      simp only [Reads2, List.map_cons, List.cons.injEq, Prod.mk.injEq] at h
      have hne : (p == x.1.1 && e == x.1.2) = false := by
        have := hx x (by simp)
        simp only [Bool.and_eq_false_iff, beq_eq_false_iff_ne]
        by_cases h1 : p = x.1.1
        · right; intro h2; exact this (by rw [h1, h2])
        · left; exact h1
      simp only [Instr.findAsking, Sem.run_bind, h.1.1, equal_change, Result.andThen_ok, hne, Bool.false_eq_true, if_false]
      exact ih es (i + 1) h.2 (fun z hz => hx z (by simp [hz]))
theorem findAsking_some (p e v : Int) (w : World) : ∀ (l : List ((Int × Int) × Int)) (es : List MapEntry) (i : Nat), Reads2 es l → (∀ x ∈ l, x.1 = (p, e) → x.2 = v) → (∃ x ∈ l, x.1 = (p, e)) →
    ∃ j, (Instr.findAsking 119 (K2 p e) es i).run Tryd.prog w = .ok (some (j, .int .i64 v)) w := by
  intro l
  induction l with
  | nil => intro es i h _ hx; simp at hx
  | cons x l ih =>
    intro es i h hv hx
    cases es with
    | nil => simp [Reads2] at h
    | cons y es =>
      simp only [Reads2, List.map_cons, List.cons.injEq, Prod.mk.injEq] at h
      by_cases heq : x.1 = (p, e)
      · have h2 := hv x (by simp) heq
        refine ⟨i, ?_⟩
        have he : (p == x.1.1 && e == x.1.2) = true := by rw [heq]; simp
        simp only [Instr.findAsking, Sem.run_bind, h.1.1, equal_change, Result.andThen_ok, he, if_true, Sem.run_pure, h.1.2, h2]
      · have hne : (p == x.1.1 && e == x.1.2) = false := by
          simp only [Bool.and_eq_false_iff, beq_eq_false_iff_ne]
          by_cases h1 : p = x.1.1
          · right; intro h2; exact heq (by rw [h1, h2])
          · left; exact h1
        simp only [Instr.findAsking, Sem.run_bind, h.1.1, equal_change, Result.andThen_ok, hne, Bool.false_eq_true, if_false]
        refine ih es (i + 1) h.2 (fun z hz => hv z (by simp [hz])) ?_
        obtain ⟨z, hz, hz2⟩ := hx
        rcases List.mem_cons.1 hz with rfl | hz
        · exact absurd hz2 heq
        · exact ⟨z, hz, hz2⟩
theorem findNow_change (k : Value) (es : List MapEntry) (i : Nat) (fs) (h : es ≠ []) : Instr.findNow (.struct fs) k es i = none := by
  cases es with
  | nil => exact absurd rfl h
  | cons e es => simp [Instr.findNow, Instr.sameNow]
theorem findKey_run (p e : Int) (w : World) (es : List MapEntry) (r) (h : (Instr.findAsking 119 (K2 p e) es).run Tryd.prog w = .ok r w) :
    (Instr.findKey 119 (K2 p e) es).run Tryd.prog w = .ok r w := by
  simp only [Instr.findKey, Sem.run_bind, run_underlying Tryd.underlying119, Result.andThen_ok]
  cases es with
  | nil => 
    simp only [Instr.findAsking, Sem.run_pure, Result.ok.injEq] at h
    simp [Instr.findNow, ← h.1]
  | cons x es => rw [findNow_change _ _ _ _ (by simp)]; exact h

def tblL : List ((Int × Int) × Int) := [((1,1),3),((2,1),3),((1,2),2),((2,2),2),((2,3),1),((3,4),4),((1,5),5),((2,5),5),((3,5),5),((4,5),5)]

theorem ins_run (b : Nat) (w : World) (es : Array MapEntry) (clock : Nat) (l : List ((Int × Int) × Int)) (p e v : Int) (hb : w.heap[b]? = some (.map es clock)) (hl : Reads2 es.toList l) (hn : ∀ x ∈ l, x.1 ≠ (p, e)) :
    (Instr.mapUpdate 116 (.map (some b)) (K2 p e) (.int .i64 v)).run Tryd.prog w = .ok () { w with heap := w.heap.setIfInBounds b (.map (es.push { key := K2 p e, val := .int .i64 v, born := clock }) (clock + 1)) } := by
  have h1 := findKey_run p e w es.toList none (findAsking_none p e w l es.toList 0 hl hn)
  simp only [Instr.mapUpdate, Sem.run_bind, run_underlying Tryd.underlying116, Result.andThen_ok]
  simp only [MapKept.run_getObj_map hb, Result.andThen_ok, Sem.run_bind, check_change, h1]
  rw [MapKept.run_setObj_map _ hb]
theorem ins_wp {ops : Array Oper} {Q : Exit → Act → World → Prop} {K : Act → World → Prop} {i : Nat} {a : Act} {w : World} {k : Nat} {ps : String} {af : Array Edge} (p e v : Int)
    (ho : ops[i]? = some { dst := none, op := .insert 116 (.tmp 1) (.tmp k) (.const (.int .i64 v)), type := 0, pos := ps, after := af, guard := none })
    (b : Nat) (es : Array MapEntry) (clock : Nat) (l : List ((Int × Int) × Int)) (h1 : a.tmps.getD 1 undef = .map (some b)) (hk : a.tmps.getD k undef = K2 p e)
    (hb : w.heap[b]? = some (.map es clock)) (hl : Reads2 es.toList l) (hn : ∀ x ∈ l, x.1 ≠ (p, e))
    (hK : K a { w with heap := w.heap.setIfInBounds b (.map (es.push { key := K2 p e, val := .int .i64 v, born := clock }) (clock + 1)) }) :
    wpOp Tryd.prog ops Q i K a w := by
  unfold wpOp
  rw [ho]
  simp only [Region.wanted, if_true]
  left
  unfold Oper.wp
  simp only [execOp, Act.eval, h1, hk, Sem.run_bind]
  rw [ins_run b w es clock l p e v hb hl hn]
  exact hK


def regOps : Code → Nat → Option (Array Oper)
  | .region i ops _, k => if i = k then some ops else none
  | .seq a b, k => (regOps a k).or (regOps b k)
  | .cond _ a b, k => (regOps a k).or (regOps b k)
  | .block _ a, k => regOps a k
  | .loop a, k => regOps a k
  | .scope a, k => regOps a k
  | _, _ => none
noncomputable def tblOps : Array Oper := ((Tryd.f91.body).bind (regOps · 1)).getD #[]
theorem tbl_size : tblOps.size = 23 := by kernel_rfl
theorem tbl_op0 : tblOps[0]? = some { dst := some 1, op := .makeMap 116 none, type := 116, pos := "phase.go:20", after := #[], guard := none } := by kernel_rfl
theorem tbl_build_all : (List.range 10).map (fun j => tblOps[2 * j + 1]?) = (List.range 10).map (fun j => some ({ dst := some (j + 2), op := .build 119 #[(0, .const (.int .i64 (tblL.getD j default).1.1)), (1, .const (.int .i64 (tblL.getD j default).1.2))], type := 119, pos := "phase.go:20", after := #[], guard := none } : Oper)) := by kernel_rfl
theorem tbl_build (j : Nat) (hj : j < 10) : tblOps[2 * j + 1]? = some { dst := some (j + 2), op := .build 119 #[(0, .const (.int .i64 (tblL.getD j default).1.1)), (1, .const (.int .i64 (tblL.getD j default).1.2))], type := 119, pos := "phase.go:20", after := #[], guard := none } := List.map_inj_left.1 tbl_build_all j (List.mem_range.2 hj)
theorem tbl_insert_all : (List.range 10).map (fun j => tblOps[2 * j + 2]?) = (List.range 10).map (fun j => some ({ dst := none, op := .insert 116 (.tmp 1) (.tmp (j + 2)) (.const (.int .i64 (tblL.getD j default).2)), type := 0, pos := "phase.go:20", after := #[⟨0, .data⟩, ⟨2 * j + 1, .data⟩], guard := none } : Oper)) := by kernel_rfl
theorem tbl_insert (j : Nat) (hj : j < 10) : tblOps[2 * j + 2]? = some { dst := none, op := .insert 116 (.tmp 1) (.tmp (j + 2)) (.const (.int .i64 (tblL.getD j default).2)), type := 0, pos := "phase.go:20", after := #[⟨0, .data⟩, ⟨2 * j + 1, .data⟩], guard := none } := List.map_inj_left.1 tbl_insert_all j (List.mem_range.2 hj)
theorem tbl_op21 : tblOps[21]? = some { dst := some 12, op := .move (.tmp 1), type := 116, pos := "phase.go:20", after := ((List.range 21).map fun k => (⟨k, .data⟩ : Edge)).toArray, guard := none } := by kernel_rfl
theorem tbl_op22 : tblOps[22]? = some { dst := some 0, op := .assign (.tmp 12), type := 116, pos := "phase.go:20", after := (⟨21, .data⟩ :: ((List.range 22).map fun k => (⟨k, .phase⟩ : Edge))).toArray, guard := none } := by kernel_rfl

/-- What the region of phase.table has done so far. -/
structure TblInv (w0 : World) (listed : Array Bool) (a : Act) (w : World) : Prop where
  size : listed.size = 23
  tsize : a.tmps.size = 13
  defs : a.defers = []
  t1 : listed.getD 0 false = true → a.tmps.getD 1 undef = .map (some w0.heap.size)
  tk : ∀ j, j < 10 → listed.getD (2 * j + 1) false = true → a.tmps.getD (j + 2) undef = K2 (tblL.getD j default).1.1 (tblL.getD j default).1.2
  t12 : listed.getD 21 false = true → a.tmps.getD 12 undef = .map (some w0.heap.size)
  t0 : listed.getD 22 false = true → a.tmps.getD 0 undef = .map (some w0.heap.size)
  non : listed.getD 0 false = false → w.heap.size = w0.heap.size
  map : listed.getD 0 false = true → ∃ es clock l, w.heap[w0.heap.size]? = some (.map es clock) ∧ Reads2 es.toList l ∧ (∀ x ∈ l, ∃ j, j < 10 ∧ x = tblL.getD j default ∧ listed.getD (2 * j + 2) false = true) ∧ (∀ j, j < 10 → listed.getD (2 * j + 2) false = true → tblL.getD j default ∈ l)
  zero : listed.getD 0 false = false → ∀ j, j < 10 → listed.getD (2 * j + 2) false = false
  below : Below w0.heap.size w0 w

theorem tbl_nodup : ∀ i, i < 10 → ∀ j, j < 10 → (tblL.getD i default).1 = (tblL.getD j default).1 → i = j := by decide

theorem tbl_put {a : Act} {d : Nat} {v : Value} (hs : a.tmps.size = 13) (hd : d < 13) (k : Nat) : ((a.put (some d) v).tmps).getD k undef = if k = d then v else a.tmps.getD k undef := by
  simp only [Act.put, Array.getD_eq_getD_getElem?, Array.getElem?_setIfInBounds]
  by_cases h : k = d
  · subst h; simp [hs, hd]
  · simp [h, Ne.symm h]
theorem set_self (listed : Array Bool) (i : Nat) (h : i < listed.size) (d : Bool) : (listed.setIfInBounds i true).getD i d = true := by
  simp [Array.getD_eq_getD_getElem?, Array.getElem?_setIfInBounds, h]
theorem getD_both {listed : Array Bool} {i : Nat} (h : listed.getD i true = false) : listed.getD i false = false := by
  rw [Array.getD_eq_getD_getElem?] at h ⊢
  cases hh : listed[i]? <;> simp_all

theorem ready_cases {listed : Array Bool} {i : Nat} (hi : i ∈ Region.ready .any tblOps listed) : i = 0 ∨ (∃ j, j < 10 ∧ i = 2 * j + 1) ∨ (∃ j, j < 10 ∧ i = 2 * j + 2) ∨ i = 21 ∨ i = 22 := by
  have h := List.mem_range.1 (List.mem_filter.1 hi).1
  rw [tbl_size] at h
  by_cases h0 : i = 0
  · exact .inl h0
  by_cases h1 : i = 21
  · exact .inr (.inr (.inr (.inl h1)))
  by_cases h2 : i = 22
  · exact .inr (.inr (.inr (.inr h2)))
  by_cases h3 : i % 2 = 1
  · exact .inr (.inl ⟨i / 2, by omega, by omega⟩)
  · exact .inr (.inr (.inl ⟨i / 2 - 1, by omega, by omega⟩))

theorem TblInv.step {w0 : World} {listed : Array Bool} {a : Act} {w : World} {Q : Exit → Act → World → Prop} {i : Nat} (h : TblInv w0 listed a w) (hi : i ∈ Region.ready .any tblOps listed) :
    wpOp Tryd.prog tblOps Q i (TblInv w0 (listed.setIfInBounds i true)) a w := by
  obtain ⟨hs, hts, hdf, h1, hk, h12, ht0, hnon, hmap, hzero, hbel⟩ := h
  obtain ⟨hnot, o, ho, hedge⟩ := mem_ready.1 hi
  have hne : ∀ k, k ≠ i → (listed.setIfInBounds i true).getD k false = listed.getD k false := fun k hk => getD_set_ne _ (Ne.symm hk)
  rcases ready_cases hi with rfl | ⟨j, hj, rfl⟩ | ⟨j, hj, rfl⟩ | rfl | rfl
  · -- the map is made
    have hself := set_self listed 0 (by omega) false
    have hz := getD_both hnot
    refine yields_wp tbl_op0 rfl (.map (some w.heap.size)) (w' := w.alloc (.map #[] 0)) (by simp [execOp, Sem.run_bind]; rw [run_makeMap]; rfl) ?_
    rw [hnon hz] 
    refine ⟨by simpa using hs, by simpa [Act.put] using hts, hdf, ?_, ?_, ?_, ?_, ?_, ?_, ?_, ?_⟩
    · intro _; rw [tbl_put hts (by omega)]; rfl
    · intro j hj hl; rw [hne _ (by omega)] at hl; rw [tbl_put hts (by omega), if_neg (by omega)]; exact hk j hj hl
    · intro hl; rw [hne _ (by omega)] at hl; rw [tbl_put hts (by omega), if_neg (by omega)]; exact h12 hl
    · intro hl; rw [hne _ (by omega)] at hl; rw [tbl_put hts (by omega), if_neg (by omega)]; exact ht0 hl
    · intro hl; rw [hself] at hl; cases hl
    · intro _
      refine ⟨#[], 0, [], ?_, rfl, by simp, ?_⟩
      · show (w.heap.push _)[_]? = _
        rw [← hnon hz]; simp
      · intro j hj hl; rw [hne _ (by omega), hzero hz j hj] at hl; cases hl
    · intro hl; rw [hself] at hl; cases hl
    · exact hbel.alloc hbel.size _
  · -- a key
    have hop := tbl_build j hj
    refine yields_wp hop rfl (K2 (tblL.getD j default).1.1 (tblL.getD j default).1.2) (w' := w) (by kernel_rfl) ?_
    refine ⟨by simpa using hs, by simpa [Act.put] using hts, hdf, ?_, ?_, ?_, ?_, ?_, ?_, ?_, hbel⟩
    · intro hl; rw [hne _ (by omega)] at hl; rw [tbl_put hts (by omega), if_neg (by omega)]; exact h1 hl
    · intro j' hj' hl
      rw [tbl_put hts (by omega)]
      by_cases hjj : j' = j
      · subst hjj; simp
      · rw [hne _ (by omega)] at hl; rw [if_neg (by omega)]; exact hk j' hj' hl
    · intro hl; rw [hne _ (by omega)] at hl; rw [tbl_put hts (by omega), if_neg (by omega)]; exact h12 hl
    · intro hl; rw [hne _ (by omega)] at hl; rw [tbl_put hts (by omega), if_neg (by omega)]; exact ht0 hl
    · intro hl; rw [hne _ (by omega)] at hl; exact hnon hl
    · intro hl; rw [hne _ (by omega)] at hl
      obtain ⟨es, clock, l, a1, a2, a3, a4⟩ := hmap hl
      exact ⟨es, clock, l, a1, a2, fun x hx => by obtain ⟨j', b1, b2, b3⟩ := a3 x hx; exact ⟨j', b1, b2, by rw [hne _ (by omega)]; exact b3⟩, fun j' hj' hl' => a4 j' hj' (by rw [hne _ (by omega)] at hl'; exact hl')⟩
    · intro hl j' hj'; rw [hne _ (by omega)] at hl ⊢; exact hzero hl j' hj'
  · -- an entry
    have hop := tbl_insert j hj
    rw [hop] at ho
    have he0 := hedge ⟨0, .data⟩ (by rw [← Option.some.inj ho]; simp) rfl
    have hek := hedge ⟨2 * j + 1, .data⟩ (by rw [← Option.some.inj ho]; simp) rfl
    have hself := set_self listed (2 * j + 2) (by omega) false
    obtain ⟨es, clock, l, hb, hl, hl1, hl2⟩ := hmap he0
    refine ins_wp _ _ _ hop w0.heap.size es clock l (h1 he0) (hk j hj hek) hb hl ?_ ?_
    · intro x hx heq
      obtain ⟨i, hi, rfl, hli⟩ := hl1 x hx
      have := tbl_nodup i hi j hj heq
      subst this
      rw [getD_both hnot] at hli; cases hli
    · have hlt : w0.heap.size < w.heap.size := (Array.getElem?_eq_some_iff.1 hb).1
      refine ⟨by simpa using hs, hts, hdf, ?_, ?_, ?_, ?_, ?_, ?_, ?_, ?_⟩
      · intro _; exact h1 he0
      · intro j' hj' hl'; rw [hne _ (by omega)] at hl'; exact hk j' hj' hl'
      · intro hl'; rw [hne _ (by omega)] at hl'; exact h12 hl'
      · intro hl'; rw [hne _ (by omega)] at hl'; exact ht0 hl'
      · intro hl'; rw [hne _ (by omega), he0] at hl'; cases hl'
      · intro _
        refine ⟨es.push { key := K2 (tblL.getD j default).1.1 (tblL.getD j default).1.2, val := .int .i64 (tblL.getD j default).2, born := clock }, clock + 1, l ++ [tblL.getD j default], ?_, ?_, ?_, ?_⟩
        · show (w.heap.setIfInBounds _ _)[_]? = _
          rw [Array.getElem?_setIfInBounds, if_pos rfl, if_pos hlt]
        · simp only [Reads2, Array.toList_push, List.map_append, List.map_cons, List.map_nil] at hl ⊢; rw [hl]
        · intro x hx
          rcases List.mem_append.1 hx with hx | hx
          · obtain ⟨i, hi, h1, h2⟩ := hl1 x hx
            refine ⟨i, hi, h1, ?_⟩
            by_cases hij : i = j
            · subst hij; exact hself
            · rw [hne _ (by omega)]; exact h2
          · exact ⟨j, hj, List.mem_singleton.1 hx, hself⟩
        · intro i hi h2
          by_cases hij : i = j
          · subst hij; exact List.mem_append_right _ (List.mem_singleton.2 rfl)
          · rw [hne _ (by omega)] at h2; exact List.mem_append_left _ (hl2 i hi h2)
      · intro hl'; rw [hne _ (by omega), he0] at hl'; cases hl'
      · exact ⟨hbel.os, hbel.tape, hbel.output, by simpa using hbel.size, fun k hk => by
          show (w.heap.setIfInBounds _ _)[k]? = _
          rw [Array.getElem?_setIfInBounds, if_neg (by omega)]; exact hbel.block k hk⟩
  · -- the map is named
    have hop := tbl_op21
    rw [hop] at ho
    have he0 := hedge ⟨0, .data⟩ (by rw [← Option.some.inj ho]; simp) rfl
    refine yields_wp hop rfl (.map (some w0.heap.size)) (w' := w) (by simp [execOp, Act.eval, h1 he0]) ?_
    refine ⟨by simpa using hs, by simpa [Act.put] using hts, hdf, ?_, ?_, ?_, ?_, ?_, ?_, ?_, hbel⟩
    · intro hl; rw [hne _ (by omega)] at hl; rw [tbl_put hts (by omega), if_neg (by omega)]; exact h1 hl
    · intro j' hj' hl; rw [hne _ (by omega)] at hl; rw [tbl_put hts (by omega), if_neg (by omega)]; exact hk j' hj' hl
    · intro _; rw [tbl_put hts (by omega)]; rfl
    · intro hl; rw [hne _ (by omega)] at hl; rw [tbl_put hts (by omega), if_neg (by omega)]; exact ht0 hl
    · intro hl; rw [hne _ (by omega)] at hl; exact hnon hl
    · intro hl; rw [hne _ (by omega)] at hl
      obtain ⟨es, clock, l, a1, a2, a3, a4⟩ := hmap hl
      exact ⟨es, clock, l, a1, a2, fun x hx => by obtain ⟨j', b1, b2, b3⟩ := a3 x hx; exact ⟨j', b1, b2, by rw [hne _ (by omega)]; exact b3⟩, fun j' hj' hl' => a4 j' hj' (by rw [hne _ (by omega)] at hl'; exact hl')⟩
    · intro hl j' hj'; rw [hne _ (by omega)] at hl ⊢; exact hzero hl j' hj'
  · -- the result
    have hop := tbl_op22
    rw [hop] at ho
    have he0 := hedge ⟨21, .data⟩ (by rw [← Option.some.inj ho]; simp) rfl
    refine yields_wp hop rfl (.map (some w0.heap.size)) (w' := w) (by simp [execOp, Act.eval, h12 he0]) ?_
    refine ⟨by simpa using hs, by simpa [Act.put] using hts, hdf, ?_, ?_, ?_, ?_, ?_, ?_, ?_, hbel⟩
    · intro hl; rw [hne _ (by omega)] at hl; rw [tbl_put hts (by omega), if_neg (by omega)]; exact h1 hl
    · intro j' hj' hl; rw [hne _ (by omega)] at hl; rw [tbl_put hts (by omega), if_neg (by omega)]; exact hk j' hj' hl
    · intro hl; rw [hne _ (by omega)] at hl; rw [tbl_put hts (by omega), if_neg (by omega)]; exact h12 hl
    · intro _; rw [tbl_put hts (by omega)]; rfl
    · intro hl; rw [hne _ (by omega)] at hl; exact hnon hl
    · intro hl; rw [hne _ (by omega)] at hl
      obtain ⟨es, clock, l, a1, a2, a3, a4⟩ := hmap hl
      exact ⟨es, clock, l, a1, a2, fun x hx => by obtain ⟨j', b1, b2, b3⟩ := a3 x hx; exact ⟨j', b1, b2, by rw [hne _ (by omega)]; exact b3⟩, fun j' hj' hl' => a4 j' hj' (by rw [hne _ (by omega)] at hl'; exact hl')⟩
    · intro hl j' hj'; rw [hne _ (by omega)] at hl ⊢; exact hzero hl j' hj'

theorem TblInv.all {w0 : World} {listed : Array Bool} {a : Act} {w : World} (h : TblInv w0 listed a w) (hr : Region.ready .any tblOps listed = []) : ∀ k, k < 23 → listed.getD k false = true := by
  have key : ∀ k, k < 23 → (∀ o, tblOps[k]? = some o → ∀ e ∈ o.after, Region.binds .any e = true → listed.getD e.on false = true) → listed.getD k false = true := by
    intro k hk he
    have hnm : k ∉ Region.ready .any tblOps listed := by rw [hr]; simp
    have hsz : k < tblOps.size := by rw [tbl_size]; exact hk
    rw [mem_ready] at hnm
    have hl : k < listed.size := by rw [h.size]; exact hk
    rw [Array.getD_eq_getD_getElem?] at hnm ⊢
    rw [Array.getElem?_eq_getElem hl] at hnm ⊢
    cases hb : listed[k] with
    | true => rfl
    | false => exact absurd ⟨by rw [hb]; rfl, tblOps[k], Array.getElem?_eq_getElem hsz, he _ (Array.getElem?_eq_getElem hsz)⟩ hnm
  have k0 : listed.getD 0 false = true := key 0 (by omega) (fun o ho => by rw [tbl_op0] at ho; rw [← Option.some.inj ho]; simp)
  have kb : ∀ j, j < 10 → listed.getD (2 * j + 1) false = true := fun j hj => key _ (by omega) (fun o ho => by have hop := tbl_build j hj; rw [hop] at ho; rw [← Option.some.inj ho]; simp)
  have ki : ∀ j, j < 10 → listed.getD (2 * j + 2) false = true := fun j hj => key _ (by omega) (fun o ho e he _ => by
    have hop := tbl_insert j hj; rw [hop] at ho; rw [← Option.some.inj ho] at he
    simp at he
    rcases he with rfl | rfl
    · exact k0
    · exact kb j hj)
  have kall : ∀ k, k < 21 → listed.getD k false = true := by
    intro k hk
    by_cases h0 : k = 0
    · subst h0; exact k0
    by_cases h3 : k % 2 = 1
    · have := kb (k / 2) (by omega); rwa [show 2 * (k / 2) + 1 = k by omega] at this
    · have := ki (k / 2 - 1) (by omega); rwa [show 2 * (k / 2 - 1) + 2 = k by omega] at this
  have k21 : listed.getD 21 false = true := key 21 (by omega) (fun o ho e he _ => by
    have hop := tbl_op21; rw [hop] at ho; rw [← Option.some.inj ho] at he
    simp at he
    obtain ⟨k, hk, rfl⟩ := he
    exact kall k hk)
  have k22 : listed.getD 22 false = true := key 22 (by omega) (fun o ho e he _ => by
    have hop := tbl_op22; rw [hop] at ho; rw [← Option.some.inj ho] at he
    simp only [List.mem_toArray, List.mem_cons, List.mem_map, List.mem_range] at he
    rcases he with rfl | ⟨k, hk, rfl⟩
    · exact k21
    · by_cases hk' : k = 21
      · subst hk'; exact k21
      · exact kall k (by omega))
  intro k hk
  by_cases h1 : k = 21
  · subst h1; exact k21
  by_cases h2 : k = 22
  · subst h2; exact k22
  exact kall k (by omega)

def TblAt (w : World) (b : Nat) : Prop := ∃ es clock l, w.heap[b]? = some (.map es clock) ∧ Reads2 es.toList l ∧ ∀ x, x ∈ l ↔ x ∈ tblL

theorem table_region (w : World) (ops : Array Oper) (hops : ops = tblOps) (Q : Exit → Act → World → Prop) (a : Act) (hsz : a.tmps.size = 13) (hd : a.defers = [])
    (hQ : ∀ a' w', a'.tmps.size = 13 → a'.defers = [] → a'.tmps.getD 0 undef = .map (some w.heap.size) → TblAt w' w.heap.size → Below w.heap.size w w' → Q .normal a' w') :
    (Code.region 1 ops true).wp Tryd.prog Q a w := by
  subst hops
  refine wp_region_any (by kernel_rfl) ?_
  refine wpAny_inv (TblInv w) (fun l a w h => by rw [h.size, tbl_size]) (fun l a w i h hi => h.step hi) ?_ _ _ _ _ ?_ ?_
  · intro l a' w' h hr
    have hall := h.all hr
    refine hQ a' w' h.tsize h.defs (h.t0 (hall 22 (by omega))) ?_ h.below
    obtain ⟨es, clock, l', h1, h2, h3, h4⟩ := h.map (hall 0 (by omega))
    refine ⟨es, clock, l', h1, h2, fun x => ⟨fun hx => ?_, fun hx => ?_⟩⟩
    · obtain ⟨j, hj, rfl, _⟩ := h3 x hx
      have hj' : j < tblL.length := hj
      rw [List.getD_eq_getElem?_getD, List.getElem?_eq_getElem hj']
      exact List.getElem_mem _
    · obtain ⟨j, hj, rfl⟩ := List.mem_iff_getElem.1 hx
      have := h4 j hj (hall _ (by have : j < 10 := hj; omega))
      rw [List.getD_eq_getElem?_getD, List.getElem?_eq_getElem hj] at this
      exact this
  · have hf : ∀ k, (Array.replicate tblOps.size false).getD k false = false := by
      intro k; rw [Array.getD_eq_getD_getElem?, Array.getElem?_replicate]; split <;> rfl
    refine ⟨by simp [tbl_size], hsz, hd, ?_, ?_, ?_, ?_, fun _ => rfl, ?_, fun _ _ _ => hf _, (Below.refl _ _).drew⟩
    all_goals (intros; simp_all)
  · unfold unlisted; rw [← Array.length_toList]
    have := List.countP_le_length (p := fun b : Bool => !b) (l := (Array.replicate tblOps.size false).toList)
    simpa using this

set_option maxRecDepth 100000 in
theorem table_any (w : World) : Calls Tryd.prog 91 #[] w fun e w' => e = .returned (.map (some w.heap.size)) ∧ TblAt w' w.heap.size ∧ Below w.heap.size w w' := by
  go_enter Tryd.func91, Tryd.ntmps91
  go_wp2
  refine table_region w _ (by kernel_rfl) _ _ rfl rfl ?_
  intro a' w' h1 h2 h3 h4 h5
  rename_i Qp K hK
  refine hK a' w' (wp_ret ?_)
  refine bodyPost_ret (v := .map (some w.heap.size)) ?_ h2 ⟨rfl, h4, h5⟩
  rw [Array.getD_eq_getD_getElem?] at h3
  simpa [results, Tryd.results91, go_sem] using h3

/-- The phase after an event, 0 if the event does not apply. -/
def nx (p e : Int) : Int :=
  if e = 1 then (if p = 1 ∨ p = 2 then 3 else 0) else if e = 2 then (if p = 1 ∨ p = 2 then 2 else 0) else if e = 3 then (if p = 2 then 1 else 0)
  else if e = 4 then (if p = 3 then 4 else 0) else if e = 5 then (if 1 ≤ p ∧ p ≤ 4 then 5 else 0) else 0
theorem nx_mem {p e : Int} (h : nx p e ≠ 0) : ((p, e), nx p e) ∈ tblL := by
  unfold nx at h ⊢
  unfold tblL
  split at h
  · subst e; split at h
    · rcases ‹p = 1 ∨ p = 2› with rfl | rfl <;> decide
    · exact absurd rfl h
  split at h
  · subst e; split at h
    · rcases ‹p = 1 ∨ p = 2› with rfl | rfl <;> decide
    · exact absurd rfl h
  split at h
  · subst e; split at h
    · subst p; decide
    · exact absurd rfl h
  split at h
  · subst e; split at h
    · subst p; decide
    · exact absurd rfl h
  split at h
  · subst e; split at h
    · have : p = 1 ∨ p = 2 ∨ p = 3 ∨ p = 4 := by omega
      rcases this with rfl | rfl | rfl | rfl <;> decide
    · exact absurd rfl h
  · exact absurd rfl h
theorem nx_of_mem {p e v : Int} (h : ((p, e), v) ∈ tblL) : nx p e = v ∧ v ≠ 0 := by
  simp only [tblL, List.mem_cons, Prod.mk.injEq, List.not_mem_nil, or_false] at h
  rcases h with ⟨⟨rfl, rfl⟩, rfl⟩ | ⟨⟨rfl, rfl⟩, rfl⟩ | ⟨⟨rfl, rfl⟩, rfl⟩ | ⟨⟨rfl, rfl⟩, rfl⟩ | ⟨⟨rfl, rfl⟩, rfl⟩ | ⟨⟨rfl, rfl⟩, rfl⟩ | ⟨⟨rfl, rfl⟩, rfl⟩ | ⟨⟨rfl, rfl⟩, rfl⟩ | ⟨⟨rfl, rfl⟩, rfl⟩ | ⟨⟨rfl, rfl⟩, rfl⟩ <;> decide
theorem tbl_lookup (p e : Int) (w : World) (b : Nat) (h : TblAt w b) : (Instr.lookup 116 (.map (some b)) (K2 p e) true).run Tryd.prog w = .ok (.tuple #[.int .i64 (nx p e), .bool (nx p e != 0)]) w := by
  obtain ⟨es, clock, l, hb, hl, hm⟩ := h
  have hz : (zeroValue 3).run Tryd.prog w = .ok (.int .i64 0) w := by kernel_rfl
  simp only [Instr.lookup, Sem.run_bind, run_underlying Tryd.underlying116, Result.andThen_ok, MapKept.run_getObj_map hb, Sem.run_pure, check_change]
  by_cases h0 : nx p e = 0
  · have hn := findKey_run p e w es.toList none (findAsking_none p e w l es.toList 0 hl (fun x hx he => by
      have h2 := nx_of_mem (p := p) (e := e) (v := x.2) (by rw [← he]; exact (hm x).1 hx)
      exact h2.2 (h2.1 ▸ h0)))
    simp [hn, hz, h0, Result.andThen_ok]
  · obtain ⟨j, hj⟩ := findAsking_some p e (nx p e) w l es.toList 0 hl (fun x hx he => by
      have h2 := nx_of_mem (p := p) (e := e) (v := x.2) (by rw [← he]; exact (hm x).1 hx)
      exact h2.1.symm) ⟨((p, e), nx p e), (hm _).2 (nx_mem h0), rfl⟩
    have hn := findKey_run p e w es.toList _ hj
    simp [hn, h0, Result.andThen_ok]

theorem next_any (p e : Int) (w : World) : Calls Tryd.prog 24 #[.int .i64 p, .int .i64 e] w fun r w' => r = .returned (.tuple #[.int .i64 (nx p e), .bool (nx p e != 0)]) ∧ Below w.heap.size w w' := by
  go_enter Tryd.func24, Tryd.ntmps24
  go_wp2_with (go_at_call 91; refine (table_any _).mono ?_; rintro e1 w' ⟨rfl, ht, hb⟩; have hl := tbl_lookup p e w' _ ht)
  go_ret2
  exact ⟨rfl, hb⟩
end Go.Proofs.YtcegipkhmibdeaaDoor
/- The functions of package phase and of its reference: what each returns. -/
namespace Go.Proofs.YtcegipkhmibdeaaDoor
set_option linter.all false
open Go.RowKit

theorem ret_bool {a b : Bool} (h : a = b) : Ending.returned (.bool a) = Ending.returned (.bool b) := by rw [h]

theorem waits_any (p : Int) (w : World) : Calls Tryd.prog 28 #[.int .i64 p] w fun e w' => e = .returned (.bool (p == 1 || p == 2)) ∧ w = w' := by
  by_cases h1 : p = 1
  · subst h1; go_enter Tryd.func28, Tryd.ntmps28; go_wp2; go_ret; exact ⟨rfl, rfl⟩
  by_cases h2 : p = 2
  · subst h2; go_enter Tryd.func28, Tryd.ntmps28; go_wp2; go_ret; exact ⟨rfl, rfl⟩
  go_enter Tryd.func28, Tryd.ntmps28
  go_wp2
  go_ret
  exact ⟨rfl, rfl⟩
theorem placed_any (p : Int) (w : World) : Calls Tryd.prog 30 #[.int .i64 p] w fun e w' => e = .returned (.bool (p == 2 || p == 3 || p == 4)) ∧ w = w' := by
  by_cases h1 : p = 2
  · subst h1; go_enter Tryd.func30, Tryd.ntmps30; go_wp2; go_ret; exact ⟨rfl, rfl⟩
  by_cases h2 : p = 3
  · subst h2; go_enter Tryd.func30, Tryd.ntmps30; go_wp2; go_ret; exact ⟨rfl, rfl⟩
  by_cases h3 : p = 4
  · subst h3; go_enter Tryd.func30, Tryd.ntmps30; go_wp2; go_ret; exact ⟨rfl, rfl⟩
  have e : (p == 2 || p == 3 || p == 4) = false := by simp [h1, h2, h3]
  rw [e]
  go_enter Tryd.func30, Tryd.ntmps30
  go_wp2
  go_ret
  exact ⟨rfl, rfl⟩
theorem holds_any (p : Int) (w : World) : Calls Tryd.prog 29 #[.int .i64 p] w fun e w' => e = .returned (.bool (p == 3 || p == 4)) ∧ w = w' := by
  have hp := placed_any p
  have hw := waits_any p
  by_cases h1 : p = 2
  · subst h1; go_enter Tryd.func29, Tryd.ntmps29
    go_wp2_with (first | (go_at_call 30; refine (hp _).mono ?_; rintro e w' ⟨rfl, rfl⟩) | (go_at_call 28; refine (hw _).mono ?_; rintro e w' ⟨rfl, rfl⟩))
    go_ret; exact ⟨rfl, rfl⟩
  by_cases h2 : p = 3
  · subst h2; go_enter Tryd.func29, Tryd.ntmps29
    go_wp2_with (first | (go_at_call 30; refine (hp _).mono ?_; rintro e w' ⟨rfl, rfl⟩) | (go_at_call 28; refine (hw _).mono ?_; rintro e w' ⟨rfl, rfl⟩))
    go_ret; exact ⟨rfl, rfl⟩
  by_cases h3 : p = 4
  · subst h3; go_enter Tryd.func29, Tryd.ntmps29
    go_wp2_with (first | (go_at_call 30; refine (hp _).mono ?_; rintro e w' ⟨rfl, rfl⟩) | (go_at_call 28; refine (hw _).mono ?_; rintro e w' ⟨rfl, rfl⟩))
    go_ret; exact ⟨rfl, rfl⟩
  have e : (p == 2 || p == 3 || p == 4) = false := by simp [h1, h2, h3]
  have e' : (p == 3 || p == 4) = false := by simp [h2, h3]
  rw [e'] 
  rw [e] at hp
  go_enter Tryd.func29, Tryd.ntmps29
  go_wp2_with (go_at_call 30; refine (hp _).mono ?_; rintro e w' ⟨rfl, rfl⟩)
  go_ret; exact ⟨rfl, rfl⟩
def phNames : List ByteArray := [⟨#[]⟩, ⟨#[112, 101, 110, 100, 105, 110, 103]⟩, ⟨#[110, 111, 109, 105, 110, 97, 116, 101, 100]⟩, ⟨#[98, 111, 117, 110, 100]⟩, ⟨#[116, 101, 114, 109, 105, 110, 97, 116, 105, 110, 103]⟩, ⟨#[103, 111, 110, 101]⟩]
/-- The name of a phase. -/
def phName (p : Int) : ByteArray := if 0 ≤ p ∧ p < 6 then phNames.getD p.toNat ⟨#[]⟩ else ⟨#[]⟩
/-- The variable phase.names holds the names. -/
def NamesAt (w : World) : Prop := ∀ i, i < 6 → w.cell? ⟨0, i, none⟩ = some (.string (phNames.getD i ⟨#[]⟩))
theorem NamesAt.lt {w : World} (h : NamesAt w) : 0 < w.heap.size := by
  have := h 0 (by omega)
  rcases Nat.lt_or_ge 0 w.heap.size with h1 | h1
  · exact h1
  · simp [World.cell?, Array.getElem?_eq_none h1] at this
theorem NamesAt.below {w w' : World} (h : NamesAt w) (hb : Below w.heap.size w w') : NamesAt w' := fun i hi => (hb.cell (p := ⟨0, i, none⟩) h.lt).trans (h i hi)
theorem six {p : Int} (h : 0 ≤ p ∧ p < 6) : p = 0 ∨ p = 1 ∨ p = 2 ∨ p = 3 ∨ p = 4 ∨ p = 5 := by omega

theorem name_any (p : Int) (w : World) (hg : NamesAt w) : Calls Tryd.prog 31 #[.int .i64 p] w fun e w' => e = .returned (.string (phName p)) ∧ w = w' := by
  by_cases hp : 0 ≤ p ∧ p < 6
  · rcases six hp with rfl | rfl | rfl | rfl | rfl | rfl
    · have h := hg 0 (by omega); clear hg; simp only [phNames, List.getD_eq_getElem?_getD, List.getElem?_cons_zero, List.getElem?_cons_succ, Option.getD_some] at h
      go_enter Tryd.func31, Tryd.ntmps31; go_wp2; go_ret; exact ⟨rfl, rfl⟩
    · have h := hg 1 (by omega); clear hg; simp only [phNames, List.getD_eq_getElem?_getD, List.getElem?_cons_zero, List.getElem?_cons_succ, Option.getD_some] at h
      go_enter Tryd.func31, Tryd.ntmps31; go_wp2; go_ret; exact ⟨rfl, rfl⟩
    · have h := hg 2 (by omega); clear hg; simp only [phNames, List.getD_eq_getElem?_getD, List.getElem?_cons_zero, List.getElem?_cons_succ, Option.getD_some] at h
      go_enter Tryd.func31, Tryd.ntmps31; go_wp2; go_ret; exact ⟨rfl, rfl⟩
    · have h := hg 3 (by omega); clear hg; simp only [phNames, List.getD_eq_getElem?_getD, List.getElem?_cons_zero, List.getElem?_cons_succ, Option.getD_some] at h
      go_enter Tryd.func31, Tryd.ntmps31; go_wp2; go_ret; exact ⟨rfl, rfl⟩
    · have h := hg 4 (by omega); clear hg; simp only [phNames, List.getD_eq_getElem?_getD, List.getElem?_cons_zero, List.getElem?_cons_succ, Option.getD_some] at h
      go_enter Tryd.func31, Tryd.ntmps31; go_wp2; go_ret; exact ⟨rfl, rfl⟩
    · have h := hg 5 (by omega); clear hg; simp only [phNames, List.getD_eq_getElem?_getD, List.getElem?_cons_zero, List.getElem?_cons_succ, Option.getD_some] at h
      go_enter Tryd.func31, Tryd.ntmps31; go_wp2; go_ret; exact ⟨rfl, rfl⟩
  · have e : phName p = ⟨#[]⟩ := by unfold phName; rw [if_neg hp]
    rw [e]
    clear hg e
    by_cases h0 : p < 0
    · go_enter Tryd.func31, Tryd.ntmps31; go_wp2; go_ret; exact ⟨rfl, rfl⟩
    · have h6 : 6 ≤ p := by omega
      clear hp
      go_enter Tryd.func31, Tryd.ntmps31; go_wp2; go_ret; exact ⟨rfl, rfl⟩
theorem refName_any (p : Int) (w : World) : Calls Tryd.prog 32 #[.int .i64 p] w fun e w' => e = .returned (.string (phName p)) ∧ Below w.heap.size w w' := by
  by_cases hp : 1 ≤ p ∧ p < 6
  · have : p = 1 ∨ p = 2 ∨ p = 3 ∨ p = 4 ∨ p = 5 := by omega
    rcases this with rfl | rfl | rfl | rfl | rfl
    all_goals
      go_enter Tryd.func32, Tryd.ntmps32; go_wp2; go_ret; exact ⟨rfl, (Below.refl _ _).alloc (Nat.le_refl _) _⟩
  · have e : phName p = ⟨#[]⟩ := by
      unfold phName
      by_cases h : 0 ≤ p ∧ p < 6
      · have : p = 0 := by omega
        subst this; rfl
      · rw [if_neg h]
    rw [e]
    clear e
    by_cases h0 : p < 1
    · go_enter Tryd.func32, Tryd.ntmps32; go_wp2; go_ret; exact ⟨rfl, (Below.refl _ _).alloc (Nat.le_refl _) _⟩
    · have h6 : 5 < p := by omega
      clear hp
      go_enter Tryd.func32, Tryd.ntmps32; go_wp2; go_ret; exact ⟨rfl, (Below.refl _ _).alloc (Nat.le_refl _) _⟩
theorem refNext_any (p e : Int) (w : World) : Calls Tryd.prog 25 #[.int .i64 p, .int .i64 e] w fun r w' => r = .returned (.int .i64 (nx p e)) ∧ w = w' := by
  by_cases e1 : e = 1
  · subst e1
    by_cases p1 : p = 1
    · subst p1; go_enter Tryd.func25, Tryd.ntmps25; go_wp2; go_ret; exact ⟨rfl, rfl⟩
    by_cases p2 : p = 2
    · subst p2; go_enter Tryd.func25, Tryd.ntmps25; go_wp2; go_ret; exact ⟨rfl, rfl⟩
    have h : nx p 1 = 0 := by simp [nx, p1, p2]
    have hb : (p == 1 || p == 2) = false := by simp [p1, p2]
    rw [h]; clear h; go_enter Tryd.func25, Tryd.ntmps25; go_wp2; go_ret; exact ⟨rfl, rfl⟩
  by_cases e2 : e = 2
  · subst e2
    by_cases p1 : p = 1
    · subst p1; go_enter Tryd.func25, Tryd.ntmps25; go_wp2; go_ret; exact ⟨rfl, rfl⟩
    by_cases p2 : p = 2
    · subst p2; go_enter Tryd.func25, Tryd.ntmps25; go_wp2; go_ret; exact ⟨rfl, rfl⟩
    have h : nx p 2 = 0 := by simp [nx, p1, p2]
    have hb : (p == 1 || p == 2) = false := by simp [p1, p2]
    rw [h]; clear h; go_enter Tryd.func25, Tryd.ntmps25; go_wp2; go_ret; exact ⟨rfl, rfl⟩
  by_cases e3 : e = 3
  · subst e3
    by_cases p2 : p = 2
    · subst p2; go_enter Tryd.func25, Tryd.ntmps25; go_wp2; go_ret; exact ⟨rfl, rfl⟩
    have h : nx p 3 = 0 := by simp [nx, p2]
    rw [h]; clear h; go_enter Tryd.func25, Tryd.ntmps25; go_wp2; go_ret; exact ⟨rfl, rfl⟩
  by_cases e4 : e = 4
  · subst e4
    by_cases p2 : p = 3
    · subst p2; go_enter Tryd.func25, Tryd.ntmps25; go_wp2; go_ret; exact ⟨rfl, rfl⟩
    have h : nx p 4 = 0 := by simp [nx, p2]
    rw [h]; clear h; go_enter Tryd.func25, Tryd.ntmps25; go_wp2; go_ret; exact ⟨rfl, rfl⟩
  by_cases e5 : e = 5
  · subst e5
    by_cases p2 : 1 ≤ p
    · by_cases p3 : p ≤ 4
      · have h : nx p 5 = 5 := by simp [nx, p2, p3]
        rw [h]; clear h; go_enter Tryd.func25, Tryd.ntmps25; go_wp2; go_ret; exact ⟨rfl, rfl⟩
      · have h : nx p 5 = 0 := by simp [nx, p3]
        rw [h]; clear h; go_enter Tryd.func25, Tryd.ntmps25; go_wp2; go_ret; exact ⟨rfl, rfl⟩
    · have h : nx p 5 = 0 := by simp [nx, p2]
      rw [h]; clear h; go_enter Tryd.func25, Tryd.ntmps25; go_wp2; go_ret; exact ⟨rfl, rfl⟩
  have h : nx p e = 0 := by simp [nx, e1, e2, e3, e4, e5]
  rw [h]; clear h; go_enter Tryd.func25, Tryd.ntmps25; go_wp2; go_ret; exact ⟨rfl, rfl⟩
end Go.Proofs.YtcegipkhmibdeaaDoor
/- phase.Run and its reference: what they return, over the events of a slice. -/
namespace Go.Proofs.YtcegipkhmibdeaaDoor
set_option linter.all false
open Go.RowKit

/-- What any events lead to: the phase, and how many of them were applied. -/
def runP (p : Int) : List Int → Int × Nat
  | [] => (p, 0)
  | e :: es => if nx p e = 0 then (p, 0) else ((runP (nx p e) es).1, (runP (nx p e) es).2 + 1)

/-- The slice's elements. -/
def IntsAt (w : World) (v : Value) (zs : List Int) : Prop :=
  ∃ a cap, v = .slice a zs.length cap ∧ (zs = [] ∨ ∃ b off, a = some ⟨b, off, none⟩ ∧ b < w.heap.size ∧ ∀ j, j < zs.length → w.cell? ⟨b, off + j, none⟩ = some (.int .i64 (zs.getD j 0)))
theorem IntsAt.below {w w' : World} {v : Value} {zs : List Int} (h : IntsAt w v zs) (hb : Below w.heap.size w w') : IntsAt w' v zs := by
  obtain ⟨a, cap, rfl, h | ⟨b, off, rfl, hlt, hc⟩⟩ := h
  · exact ⟨a, cap, rfl, .inl h⟩
  · exact ⟨_, cap, rfl, .inr ⟨b, off, rfl, Nat.lt_of_lt_of_le hlt hb.size, fun j hj => (hb.cell (p := ⟨b, off + j, none⟩) hlt).trans (hc j hj)⟩⟩

theorem runP_step {p : Int} {zs : List Int} {k : Nat} (hk : k < zs.length) : runP p (zs.drop k) = if nx p (zs.getD k 0) = 0 then (p, 0) else ((runP (nx p (zs.getD k 0)) (zs.drop (k + 1))).1, (runP (nx p (zs.getD k 0)) (zs.drop (k + 1))).2 + 1) := by
  rw [List.drop_eq_getElem_cons hk, runP, List.getD_eq_getElem?_getD, List.getElem?_eq_getElem hk]; rfl
theorem runP_le (p : Int) (zs : List Int) : (runP p zs).2 ≤ zs.length := by
  induction zs generalizing p with
  | nil => simp [runP]
  | cons e es ih => simp only [runP]; split; · simp
                    · have := ih (nx p e); simp; omega

set_option maxRecDepth 100000 in
theorem run_some (p : Int) (b off cap : Nat) (zs : List Int) (w : World) (hz : zs.length ≤ 140737488351232) (hb : b < w.heap.size)
    (hc : ∀ j, j < zs.length → w.cell? ⟨b, off + j, none⟩ = some (.int .i64 (zs.getD j 0))) :
    Calls Tryd.prog 26 #[.int .i64 p, .slice (some ⟨b, off, none⟩) zs.length cap] w fun r w' => r = .returned (.tuple #[.int .i64 (runP p zs).1, .int .i64 (runP p zs).2]) ∧ Below w.heap.size w w' := by
  obtain ⟨len, hlen⟩ : ∃ n, n = zs.length := ⟨_, rfl⟩
  rw [← hlen] at hz hc ⊢
  have HL := Lib.hid hlen; clear hlen
  have HC := Lib.hid hc; clear hc
  go_enter Tryd.func26, Tryd.ntmps26
  go_wp2
  go_loopw [0, 12] (fun q i wr => ∃ (k : Nat) (x : Int), k ≤ len ∧ i = .int .i64 k ∧ q = .int .i64 x ∧ Hid (runP p zs = ((runP x (zs.drop k)).1, (runP x (zs.drop k)).2 + k)) ∧ Below w.heap.size w wr) (fun _ i _ => len - (intOf i).toNat)
  case atStart => exact ⟨0, p, Nat.zero_le _, rfl, rfl, by rfl, Below.refl _ _⟩
  case round =>
    obtain ⟨k, x, hk, rfl, rfl, hrun, hbel⟩ := hrel
    by_cases hlt : k < len
    · obtain ⟨e, he⟩ : ∃ e, e = zs.getD k 0 := ⟨_, rfl⟩
      have hcell : wr.cell? ⟨b, off + k, none⟩ = some (.int .i64 e) := by rw [he]; exact (hbel.cell (p := ⟨b, off + k, none⟩) hb).trans (HC.out k hlt)
      have hstep := runP_step (p := x) (zs := zs) (k := k) (by rw [← HL.out]; exact hlt)
      rw [← he] at hstep
      clear he
      by_cases hn : nx x e = 0
      · have hfin : Hid ((runP p zs).1 = x ∧ (runP p zs).2 = k) := by rw [hrun.out, hstep, if_pos hn]; exact ⟨rfl, by simp⟩
        have hf : (nx x e != 0) = false := by simp [hn]
        clear hstep hn hrun
        go_wp2_with (go_at_call 24; refine (next_any _ _ _).mono ?_; rintro e1 w' ⟨rfl, hb1⟩)
        go_ret2
        exact ⟨by rw [hfin.out.1, hfin.out.2]; rfl, hbel.trans (hb1.mono hbel.size)⟩
      · have hfin : Hid (runP p zs = ((runP (nx x e) (zs.drop (k + 1))).1, (runP (nx x e) (zs.drop (k + 1))).2 + (k + 1))) := by rw [hrun.out, hstep, if_neg hn]; show (_, _) = _; rw [Nat.add_assoc, Nat.add_comm 1 k]
        have hf : (nx x e != 0) = true := by simp [hn]
        clear hstep hn hrun
        go_wp2_with (go_at_call 24; refine (next_any _ _ _).mono ?_; rintro e1 w' ⟨rfl, hb1⟩)
        go_roundw
        case rel => exact ⟨k + 1, _, by omega, by go_num, rfl, hfin, hbel.trans (hb1.mono hbel.size)⟩
        case measure => simp [intOf]; omega
    · have hk' : zs.drop k = [] := List.drop_eq_nil_of_le (by rw [← HL.out]; omega)
      have hkl : Hid (k = len) := by show k = len; omega
      have hfin : Hid (runP p zs = (x, k)) := by rw [hrun.out, hk']; show (_, _) = _; simp [runP]
      clear hk' hrun
      go_wp2
      go_ret2
      exact ⟨by rw [hfin.out, ← hkl.out]; rfl, hbel⟩

/-- A slice without elements, a nil one too. -/
theorem run_none (p : Int) (a : Option Addr) (cap : Nat) (w : World) :
    Calls Tryd.prog 26 #[.int .i64 p, .slice a 0 cap] w fun r w' => r = .returned (.tuple #[.int .i64 p, .int .i64 0]) ∧ Below w.heap.size w w' := by
  go_enter Tryd.func26, Tryd.ntmps26
  go_wp2
  refine wp_loop_rounds 1 ?_
  rw [rounds_succ]
  go_wp2
  go_ret2
  exact ⟨rfl, Below.refl _ _⟩
theorem run_any (p : Int) (v : Value) (zs : List Int) (w : World) (hz : zs.length ≤ 140737488351232) (h : IntsAt w v zs) :
    Calls Tryd.prog 26 #[.int .i64 p, v] w fun r w' => r = .returned (.tuple #[.int .i64 (runP p zs).1, .int .i64 (runP p zs).2]) ∧ Below w.heap.size w w' := by
  obtain ⟨a, cap, rfl, rfl | ⟨b, off, rfl, hlt, hc⟩⟩ := h
  · exact run_none p a cap w
  · exact run_some p b off cap zs w hz hlt hc

set_option maxRecDepth 100000 in
theorem refRun_some (p : Int) (b off cap : Nat) (zs : List Int) (w : World) (hz : zs.length ≤ 140737488351232)
    (hc : ∀ j, j < zs.length → w.cell? ⟨b, off + j, none⟩ = some (.int .i64 (zs.getD j 0))) :
    Calls Tryd.prog 27 #[.int .i64 p, .slice (some ⟨b, off, none⟩) zs.length cap] w fun r w' => r = .returned (.tuple #[.int .i64 (runP p zs).1, .int .i64 (runP p zs).2]) ∧ w = w' := by
  obtain ⟨len, hlen⟩ : ∃ n, n = zs.length := ⟨_, rfl⟩
  rw [← hlen] at hz hc ⊢
  have HL := Lib.hid hlen; clear hlen
  have HC := Lib.hid hc; clear hc
  go_enter Tryd.func27, Tryd.ntmps27
  go_wp2
  go_loop [0, 6] (fun q i => ∃ (k : Nat) (x : Int), k ≤ len ∧ i = .int .i64 k ∧ q = .int .i64 x ∧ Hid (runP p zs = ((runP x (zs.drop k)).1, (runP x (zs.drop k)).2 + k))) (fun _ i => len - (intOf i).toNat)
  case atStart => exact ⟨0, p, Nat.zero_le _, rfl, rfl, by rfl⟩
  case round =>
    obtain ⟨k, x, hk, rfl, rfl, hrun⟩ := hrel
    by_cases hlt : k < len
    · obtain ⟨e, he⟩ : ∃ e, e = zs.getD k 0 := ⟨_, rfl⟩
      have hcell : w.cell? ⟨b, off + k, none⟩ = some (.int .i64 e) := by rw [he]; exact HC.out k hlt
      have hstep := runP_step (p := x) (zs := zs) (k := k) (by rw [← HL.out]; exact hlt)
      rw [← he] at hstep
      clear he
      by_cases hn : nx x e = 0
      · have hfin : Hid ((runP p zs).1 = x ∧ (runP p zs).2 = k) := by rw [hrun.out, hstep, if_pos hn]; exact ⟨rfl, by simp⟩
        have hf : (nx x e != 0) = false := by simp [hn]
        clear hstep hn hrun
        go_wp2_with (go_at_call 25; refine (refNext_any _ _ _).mono ?_; rintro e1 w' ⟨rfl, rfl⟩)
        go_ret2
        exact ⟨by rw [hfin.out.1, hfin.out.2]; rfl, rfl⟩
      · have hfin : Hid (runP p zs = ((runP (nx x e) (zs.drop (k + 1))).1, (runP (nx x e) (zs.drop (k + 1))).2 + (k + 1))) := by rw [hrun.out, hstep, if_neg hn]; show (_, _) = _; rw [Nat.add_assoc, Nat.add_comm 1 k]
        have hf : (nx x e != 0) = true := by simp [hn]
        clear hstep hn hrun
        go_wp2_with (go_at_call 25; refine (refNext_any _ _ _).mono ?_; rintro e1 w' ⟨rfl, rfl⟩)
        go_round
        case rel => exact ⟨k + 1, _, by omega, by go_num, rfl, hfin⟩
        case measure => simp [intOf]; omega
    · have hk' : zs.drop k = [] := List.drop_eq_nil_of_le (by rw [← HL.out]; omega)
      have hkl : Hid (k = len) := by show k = len; omega
      have hfin : Hid (runP p zs = (x, k)) := by rw [hrun.out, hk']; show (_, _) = _; simp [runP]
      clear hk' hrun
      go_wp2
      go_ret2
      exact ⟨by rw [hfin.out]; rfl, rfl⟩
theorem refRun_none (p : Int) (a : Option Addr) (cap : Nat) (w : World) :
    Calls Tryd.prog 27 #[.int .i64 p, .slice a 0 cap] w fun r w' => r = .returned (.tuple #[.int .i64 p, .int .i64 0]) ∧ w = w' := by
  go_enter Tryd.func27, Tryd.ntmps27
  go_wp2
  refine wp_loop_rounds 1 ?_
  rw [rounds_succ]
  go_wp2
  go_ret2
  exact ⟨rfl, rfl⟩
theorem refRun_any (p : Int) (v : Value) (zs : List Int) (w : World) (hz : zs.length ≤ 140737488351232) (h : IntsAt w v zs) :
    Calls Tryd.prog 27 #[.int .i64 p, v] w fun r w' => r = .returned (.tuple #[.int .i64 (runP p zs).1, .int .i64 (runP p zs).2]) ∧ w = w' := by
  obtain ⟨a, cap, rfl, rfl | ⟨b, off, rfl, hlt, hc⟩⟩ := h
  · exact refRun_none p a cap w
  · exact refRun_some p b off cap zs w hz hc
end Go.Proofs.YtcegipkhmibdeaaDoor
/- What the listed variables give: the tables of names as they lie in memory when a call begins. -/
namespace Go.Proofs.YtcegipkhmibdeaaDoor
set_option linter.all false
open Go.ChangeShapes Go.WideShapes Go.ChangeAt Go.WideMaps Go.WideElems Go.RowKit

theorem own : ownKnob Tryd.prog.godebug = none := by kernel_rfl
theorem laidOut : laidOutB Tryd.prog = true := by kernel_rfl

/-- A listed array of strings: each of its cells. -/
theorem laid_strings {P : Program} {W : World} {n : String} {g ta te : Nat} {len : Nat} {ss : List (List UInt8)} {r : List (String × DataW Unit)} {ps : List MemPlace}
    (h : DataW.LaidVars P W ((n, .agg (ss.map fun s => .lit (.string s))) :: r) ps) (hg : P.globalNamed n = some g) (ht : (P.globals[g]?).map (·.type) = some ta)
    (ha : P.underlying ta = some (.array len te)) (hs : P.underlying te = some .string) (hc : P.cellsOf te = 1) :
    (∀ i, i < ss.length → W.cell? ⟨g, i, none⟩ = some (.string ⟨(ss.getD i []).toArray⟩)) ∧ ∃ q, DataW.LaidVars P W r q := by
  obtain ⟨g0, t0, cs0, f0, p0, q0, hg0, ht0, hv0, hd0, hr, _⟩ := h
  refine ⟨?_, q0, hr⟩
  obtain rfl := Option.some.inj (hg.symm.trans hg0)
  obtain rfl := Option.some.inj (ht.symm.trans ht0)
  obtain ⟨xs, m1, rfl, hx1, hlen, hn, hel⟩ := DataW.trod_array ha hd0
  simp only [Prod.mk.injEq, DataW.agg.injEq] at hx1
  intro i hi
  have hxl : xs.length = ss.length := by have := congrArg List.length hx1.1; simpa using this.symm
  have h1 := hel i (by omega)
  rw [hc, Nat.mul_one] at h1
  rw [List.getElem?_eq_getElem (by omega)] at h1
  obtain ⟨s, e1, e2, _⟩ := DataW.trod_string hs h1
  have hcell := World.var?_cell hg hv0 i
  rw [hcell]
  have e3 : cs0[i]? = some (.string s) := by
    have : (cs0.toList.drop i)[0]? = some (Value.string s) := by
      have h2 : ((cs0.toList.drop i).take 1)[0]? = some (Value.string s) := by rw [e1]; rfl
      rw [List.getElem?_take] at h2; simpa using h2
    rw [List.getElem?_drop] at this
    simpa using this
  rw [e3]
  have e4 : (xs.map (·.1))[i]? = some (DataW.lit (.string s.data.toList)) := by
    rw [List.getElem?_map, List.getElem?_eq_getElem (by omega), e2]; rfl
  rw [← hx1.1, List.getElem?_map] at e4
  rw [List.getElem?_eq_getElem hi] at e4
  simp only [Option.map_some, Option.some.injEq, DataW.lit.injEq, Lit.string.injEq] at e4
  rw [List.getD_eq_getElem?_getD, List.getElem?_eq_getElem hi]
  simp [e4]

theorem gPhase : Tryd.prog.globalNamed "hammock/phase.names" = some 0 := by kernel_rfl
theorem tPhase : (Tryd.prog.globals[0]?).map (·.type) = some 120 := by kernel_rfl
theorem uPhase : Tryd.prog.underlying 120 = some (.array 6 9) := by kernel_rfl
theorem c1String : Tryd.prog.cellsOf 9 = 1 := by kernel_rfl
/-- phase.names, as it is listed. -/
theorem names_of_laid {W : World} {r : List (String × DataW Unit)} {ps : List MemPlace} (h : DataW.LaidVars Tryd.prog W (("hammock/phase.names", Rows.laid_hammock_phase_names) :: r) ps) : NamesAt W := by
  have h1 := (laid_strings (ss := [[], [112, 101, 110, 100, 105, 110, 103], [110, 111, 109, 105, 110, 97, 116, 101, 100], [98, 111, 117, 110, 100], [116, 101, 114, 109, 105, 110, 97, 116, 105, 110, 103], [103, 111, 110, 101]]) h gPhase tPhase uPhase Tryd.underlying9 c1String).1
  intro i hi
  rw [h1 i hi]
  have : i = 0 ∨ i = 1 ∨ i = 2 ∨ i = 3 ∨ i = 4 ∨ i = 5 := by omega
  rcases this with rfl | rfl | rfl | rfl | rfl | rfl <;> rfl

/-- A slice of int that came in, as the walks read it. -/
theorem ints_of {H : Type} {enc : TypeId × Value → H} {W : World} {base : Nat} {a : Option Addr} {len cap fuel : Nat} {x : DataW H × List MemPlace} {sp : Nat → Bool} {held : Bool}
    (hf : DataW.trod enc Tryd.prog W base sp held fuel 27 [.slice a len cap] = some x) (hlt : ∀ p ∈ x.2, p.block < W.heap.size) : ∃ zs, zs.length = len ∧ IntsAt W (.slice a len cap) zs := by
  rcases open_ints Tryd.underlying27 Tryd.underlying3 (by kernel_rfl) hf with ⟨hcs, _⟩ | ⟨y, l, c, zs, hcs, _, hl, hm, hz, hx, hcell, hwz⟩
  · simp at hcs
    obtain ⟨rfl, rfl, rfl⟩ := hcs
    exact ⟨[], rfl, _, _, rfl, .inl rfl⟩
  · simp at hcs
    obtain ⟨rfl, rfl, rfl⟩ := hcs
    have hzl : len ≤ zs.length := by rw [hz]; split <;> omega
    by_cases h0 : len = 0
    · subst h0; exact ⟨[], rfl, _, _, rfl, .inl rfl⟩
    · obtain ⟨b, off, rfl, hc⟩ := ints_at hcell (by omega)
      have hb : b < W.heap.size := by
        have := hc 0 (by omega)
        rcases Nat.lt_or_ge b W.heap.size with h1 | h1
        · exact h1
        · simp [World.cell?, Array.getElem?_eq_none h1] at this
      refine ⟨zs.take len, by simp; omega, _, cap, by simp [Nat.min_eq_left hzl], .inr ⟨b, off, rfl, hb, fun j hj => ?_⟩⟩
      simp only [List.length_take] at hj
      rw [hc j (by omega), List.getD_eq_getElem?_getD, List.getD_eq_getElem?_getD, List.getElem?_take, if_pos (by omega)]
end Go.Proofs.YtcegipkhmibdeaaDoor
/- slices.Clone at []int64: a new slice with the same elements; nil of nil. -/
namespace Go.Proofs.YtcegipkhmibdeaaDoor
set_option linter.all false
open Go.RowKit

theorem bcell {W w1 : World} (hb : Below W.heap.size W w1) : (∀ b o, b < W.heap.size → w1.cell? ⟨b, o, none⟩ = W.cell? ⟨b, o, none⟩) ∧ (∀ b o, b < W.heap.size → w1.frozen? ⟨b, o, none⟩ = W.frozen? ⟨b, o, none⟩) :=
  ⟨fun b o h => hb.cell (p := ⟨b, o, none⟩) h, fun b o h => hb.frozen (p := ⟨b, o, none⟩) h⟩
theorem ownsRow_shape {w : World} {base E size n : Nat} {v : Value} {xs : List Value} (h : w.ownsRow base E size v n xs) : ∃ a cap, v = .slice a n cap := by
  rcases h.2 with ⟨rfl, rfl⟩ | ⟨g, cap, cur, rfl, _⟩
  · exact ⟨_, _, rfl⟩
  · exact ⟨_, _, rfl⟩
/-- A result that is a new slice with these numbers. -/
def RetInts (W : World) (zs : List Int) (e : Ending) (w' : World) : Prop :=
  ∃ a cap, e = .returned (.slice a zs.length cap) ∧ w'.ownsRow W.heap.size 2 1 (.slice a zs.length cap) zs.length (zs.map (Value.int .i64)) ∧ Below W.heap.size W w'
theorem info64 : (Tryd.prog.info? 2).map (fun i => (i.zero, i.size, i.bytes)) = some (some (.int .i64 0), 1, 8) := by kernel_rfl

theorem clone_nil (n c : Nat) (w : World) : Calls Tryd.prog 92 #[.slice none n c] w fun e w' => e = .returned (.slice none 0 0) ∧ w = w' := by
  have hs := fun w => Lib.run_eql_slice_nil (P := Tryd.prog) w 39 2 none n c 0 0 Tryd.underlying39
  go_enter Tryd.func92, Tryd.ntmps92
  go_wp2
  go_ret
  exact ⟨rfl, rfl⟩
set_option maxRecDepth 100000 in
theorem clone_addr (x : Addr) (cap : Nat) (zs : List Int) (w : World) (hz : zs.length * 8 ≤ 140737488351232)
    (hc : ∀ j u, (zs.map (Value.int .i64))[j]? = some u → w.cell? (x.add j) = some u ∧ (x.add j).block < w.heap.size) :
    Calls Tryd.prog 92 #[.slice (some x) zs.length cap] w (RetInts w zs) := by
  have hs := fun w => Lib.run_eql_slice_nil (P := Tryd.prog) w 39 2 (some x) zs.length cap 0 0 Tryd.underlying39
  obtain ⟨i0, hi, hz0, hz1, hz2⟩ := info_parts info64
  have HN : Hid (∀ j u, (zs.map (Value.int .i64))[j]? = some u → (w.alloc (.cells #[] 2)).cell? (x.add j) = some u) := fun j u hu => by
    rw [World.cell?_alloc_lt _ _ _ (hc j u hu).2, (hc j u hu).1]
  clear hc
  obtain ⟨len, hlen⟩ : ∃ n, n = zs.length := ⟨_, rfl⟩
  have HL := Lib.hid hlen
  rw [← hlen] at hz hs ⊢
  clear hlen
  have H1 : Hid ((zs.map (Value.int .i64)).length = len * 1) := by simp [HL.out, Hid]
  have H2 : Hid (∀ u ∈ zs.map (Value.int .i64), u.oneCell' = true) := by intro u hu; obtain ⟨x, _, rfl⟩ := List.mem_map.1 hu; rfl
  have H3 : Hid (0 + len ≤ maxLen) := by show _ ≤ _; unfold maxLen; omega
  have H4 : Hid ((0 + len) * 8 ≤ 140737488355328) := by show _ ≤ _; omega
  have H5 : Hid (w.heap.size ≤ (w.alloc (.cells #[] 2)).heap.size) := by show _ ≤ _; simp
  go_enter Tryd.func92, Tryd.ntmps92
  go_wp2_with (at_builtin; (refine wpList_append_own_at _ rfl _ _ 39 rfl w.heap.size 2 i0 (.int .i64 0) 1 8 Tryd.underlying39 hi hz0 hz1 hz2 rfl (by decide) _ 0 [] rfl (World.ownsRow_made w #[] 0 (Nat.le_refl _) (by decide) rfl) x len cap (zs.map (Value.int .i64)) rfl H1.out HN.out H2.out H3.out H4.out H5.out ?_))
  · intro v' w1 hown hgrow _ _
    obtain ⟨a', c', rfl⟩ := ownsRow_shape hown
    go_wp2
    go_ret
    exact ⟨a', c', by rw [← HL.out]; rfl, by simpa [HL.out] using hown, ((Below.refl _ w).alloc (Nat.le_refl _) _).grown hgrow (by simp) (fun k e => by cases e; exact Nat.le_refl _)⟩
theorem add_mk (b off j : Nat) : (⟨b, off, none⟩ : Addr).add j = ⟨b, off + j, none⟩ := by unfold Addr.add; split <;> simp_all
/-- A copy of whatever slice of int64: new, with the same elements. -/
theorem clone_any (v : Value) (zs : List Int) (w : World) (hz : zs.length * 8 ≤ 140737488351232) (h : IntsAt w v zs) : Calls Tryd.prog 92 #[v] w (RetInts w zs) := by
  obtain ⟨a, cap, rfl, rfl | ⟨b, off, rfl, hlt, hc⟩⟩ := h
  · cases a with
    | none => exact (clone_nil 0 cap w).mono fun e w' ⟨he, hw⟩ => ⟨_, _, he, World.ownsRow_nil _ _ _ _, hw ▸ Below.refl _ _⟩
    | some x => exact clone_addr x cap [] w (by simp) (fun j u hu => by simp at hu)
  · refine clone_addr _ cap zs w hz fun j u hu => ?_
    have hj : j < zs.length := by
      rcases Nat.lt_or_ge j zs.length with h | h
      · exact h
      · simp [List.getElem?_eq_none h] at hu
    rw [add_mk]
    refine ⟨?_, hlt⟩
    rw [hc j hj]
    simp only [List.getElem?_map, List.getElem?_eq_getElem hj, Option.map_some, Option.some.injEq] at hu
    rw [List.getD_eq_getElem?_getD, List.getElem?_eq_getElem hj, ← hu]; rfl
end Go.Proofs.YtcegipkhmibdeaaDoor
/- The functions of package op that make and copy operations. -/
namespace Go.Proofs.YtcegipkhmibdeaaDoor
set_option linter.all false
open Go.RowKit

theorem ints_of_row {w : World} {base : Nat} {E : TypeId} {v : Value} {zs : List Int} (h : w.ownsRow base E 1 v zs.length (zs.map (Value.int .i64))) : IntsAt w v zs := by
  rcases h.2 with ⟨rfl, h0⟩ | ⟨g, cap, cur, rfl, hb, hg, hn, hc, hs, ht⟩
  · exact ⟨_, _, by rw [h0], .inl (List.eq_nil_of_length_eq_zero h0)⟩
  · refine ⟨_, cap, rfl, .inr ⟨g, 0, rfl, (Array.getElem?_eq_some_iff.1 hg).1, fun j hj => ?_⟩⟩
    have h1 := h.cells (g := g) rfl j (.int .i64 (zs.getD j 0)) (by rw [List.getElem?_map, List.getElem?_eq_getElem hj, List.getD_eq_getElem?_getD, List.getElem?_eq_getElem hj]; rfl)
    rw [add_mk] at h1
    exact h1

theorem ownsRow_low {w : World} {base base' E size n : Nat} {v : Value} {xs : List Value} (h : w.ownsRow base E size v n xs) (hb : base' ≤ base) : w.ownsRow base' E size v n xs := by
  refine ⟨h.1, ?_⟩
  rcases h.2 with h2 | ⟨g, cap, cur, hv, hg, r⟩
  · exact .inl h2
  · exact .inr ⟨g, cap, cur, hv, Nat.le_trans hb hg, r⟩
/-- An operation's value. -/
abbrev opV (k i c n : Int) (f : Bool) (am : Value) : Value := .agg #[.int .i64 k, .int .i64 i, .int .i64 c, .int .i64 n, .bool f, am]
/-- A result that is an operation with amounts of its own. -/
def RetOp (W : World) (k i c n : Int) (f : Bool) (zs : List Int) (e : Ending) (w' : World) : Prop :=
  ∃ a cap, e = .returned (opV k i c n f (.slice a zs.length cap)) ∧ w'.ownsRow W.heap.size 2 1 (.slice a zs.length cap) zs.length (zs.map (Value.int .i64)) ∧ Below W.heap.size W w'

set_option maxRecDepth 100000 in
theorem opClone_any (k i c n : Int) (f : Bool) (am : Value) (zs : List Int) (w : World) (hz : zs.length * 8 ≤ 140737488351232) (h : IntsAt w am zs) :
    Calls Tryd.prog 42 #[opV k i c n f am] w (RetOp w k i c n f zs) := by
  have h' := h.below ((((Below.refl _ w).alloc (Nat.le_refl _) (.cells #[.int .i64 k, .int .i64 i, .int .i64 c, .int .i64 n, .bool f, am] 41)).alloc (by simp) (.cells #[.int .i64 0, .int .i64 0, .int .i64 0, .int .i64 0, .bool false, .slice none 0 0] 41)))
  clear h
  go_enter Tryd.func42, Tryd.ntmps42
  go_wp2_with fail
  refine (clone_any _ zs _ hz h').mono ?_
  rintro e w' ⟨a', c', rfl, hown, hb⟩
  obtain ⟨hc, hf⟩ := bcell hb
  have hsz := hb.size
  have h5 : w'.cell? ⟨w.heap.size, 5, none⟩ = some am := by rw [hc _ _ (by simp; omega)]; go_simp
  have r0 : w'.cell? ⟨w.heap.size + 1, 0, none⟩ = some (.int .i64 0) := by rw [hc _ _ (by simp)]; go_simp
  have r1 : w'.cell? ⟨w.heap.size + 1, 1, none⟩ = some (.int .i64 0) := by rw [hc _ _ (by simp)]; go_simp
  have r2 : w'.cell? ⟨w.heap.size + 1, 2, none⟩ = some (.int .i64 0) := by rw [hc _ _ (by simp)]; go_simp
  have r3 : w'.cell? ⟨w.heap.size + 1, 3, none⟩ = some (.int .i64 0) := by rw [hc _ _ (by simp)]; go_simp
  have r4 : w'.cell? ⟨w.heap.size + 1, 4, none⟩ = some (.bool false) := by rw [hc _ _ (by simp)]; go_simp
  have r5 : w'.cell? ⟨w.heap.size + 1, 5, none⟩ = some (.slice none 0 0) := by rw [hc _ _ (by simp)]; go_simp
  go_wp2
  refine bodyPost_ret (v := opV k i c n f (.slice a' zs.length c')) ?_ rfl ⟨a', c', rfl, ?_, ?_⟩
  · simp [results, Tryd.results42, go_sem, r0, r1, r2, r3, r4, r5]
  · refine ownsRow_low ?_ (show w.heap.size ≤ w.heap.size + 1 + 1 by omega)
    repeat (first | (with_reducible exact hown) | refine ownsRow_setCell_below ?_ (by show _ < _; simp only []; omega) _)
    simpa using hown
  · have hb0 : Below w.heap.size w w' := (((Below.refl _ w).alloc (Nat.le_refl _) _).alloc (by simp) _).trans (hb.mono (by simp; omega))
    repeat (first | (with_reducible exact hb0) | refine Below.setCell ?_ (by show _ ≤ _; simp only []; omega) _)
end Go.Proofs.YtcegipkhmibdeaaDoor
/- errors.As at the targets *api.Code, *api.Fault and *fault.placed: closed facts on internal/reflectlite's entries. -/
namespace Go.Proofs.YtcegipkhmibdeaaDoor
set_option linter.all false
open Go.RowKit Go.Extern.Stop Go.Stop Go.Extern

theorem methodKind (h : Value) (w : World) : (Go.method 329 172 (.agg #[h]) "Kind").run Tryd.prog w = .ok (142, h) w := by kernel_rfl
theorem methodElem (h : Value) (w : World) : (Go.method 329 172 (.agg #[h]) "Elem").run Tryd.prog w = .ok (172, .agg #[h]) w := by kernel_rfl
theorem methodImplements (h : Value) (w : World) : (Go.method 329 172 (.agg #[h]) "Implements").run Tryd.prog w = .ok (173, .agg #[h]) w := by kernel_rfl
theorem methodAssignableTo (h : Value) (w : World) : (Go.method 329 172 (.agg #[h]) "AssignableTo").run Tryd.prog w = .ok (170, .agg #[h]) w := by kernel_rfl
theorem rlm (z : Sem Value) (f : TypeId → Addr → Nat → Nat → Sem Value) (v : Value) :
    ReflectliteValue.method z f #[v] = (do match ← ReflectliteValue.parts v with | none => z | some (t, a, fl) => f t a fl (fl % 32)) := rfl
theorem rls (v x : Value) : ReflectliteValue.set #[v, x] = (do
    let (some (dst, a, fl), some (src, b, _)) := (← ReflectliteValue.parts v, ← ReflectliteValue.parts x)
      | unsupported (.noEntry "extern/(internal/reflectlite.Value).Set.zeroValue")
    if fl / ReflectliteValue.flagAddr % 2 == 0 then unsupported (.noEntry "extern/(internal/reflectlite.Value).Set.unaddressable")
    let val ← loadVar src b
    if ← Rtype.directlyAssignable dst src then storeVar dst a val
    else if ← Rtype.implements dst src then
      if (← Rtype.kind src) == 20 then
        match val with
        | .nilIface => unsupported (.noEntry "extern/reflectlite: a nil value of one interface type handed on as a value of another")
        | _ => storeVar dst a val
      else storeVar dst a (.iface src val)
    else panicString ("reflectlite.Set: value of type " ++ (← Rtype.spelt src) ++ " is not assignable to type " ++ (← Rtype.spelt dst))
    pure (.tuple #[])) := rfl

/-! ### the target *api.Code -/
theorem valueOfC (t : Addr) (w : World) : (ReflectliteValue.unpack (.iface 135 (.pointer (some t)))).run Tryd.prog w = .ok (.agg #[.pointer (some ⟨7, 135, none⟩), .pointer (some ⟨w.heap.size, 0, none⟩), .int .u64 150]) (w.alloc (.cells #[.pointer (some t)] 135)) := by kernel_rfl
theorem typeC (a : Addr) (w : World) : (ReflectliteValue.methodAny (ReflectliteValue.valueError "reflectlite.Value.Type" 0) (fun t _ _ _ => ReflectliteType.toType t) #[.agg #[.pointer (some ⟨7, 135, none⟩), .pointer (some a), .int .u64 150]]).run Tryd.prog w = .ok (.iface 172 (.agg #[.pointer (some ⟨7, 135, none⟩)])) w := by kernel_rfl
theorem kindPC (w : World) : ((ReflectliteType.abiMethod fun t => (fun a : Nat => Value.int IntKind.u8 (a : Int)) <$> Rtype.kind t) #[.pointer (some ⟨7, 135, none⟩)]).run Tryd.prog w = .ok (.int .u8 22) w := by kernel_rfl
theorem kindEC (w : World) : ((ReflectliteType.abiMethod fun t => (fun a : Nat => Value.int IntKind.u8 (a : Int)) <$> Rtype.kind t) #[.pointer (some ⟨7, 94, none⟩)]).run Tryd.prog w = .ok (.int .u8 2) w := by kernel_rfl
theorem partsC (a : Addr) (w : World) : (ReflectliteValue.parts (.agg #[.pointer (some ⟨7, 135, none⟩), .pointer (some a), .int .u64 150])).run Tryd.prog w = .ok (some (135, a, 150)) w := by kernel_rfl
theorem isNilC (a p : Addr) (W : World) (ha : W.cell? a = some (.pointer (some p))) :
    (ReflectliteValue.method (ReflectliteValue.valueError "reflectlite.Value.IsNil" 0) ReflectliteValue.isNil #[.agg #[.pointer (some ⟨7, 135, none⟩), .pointer (some a), .int .u64 150]]).run Tryd.prog W = .ok (.bool false) W := by
  rw [rlm]
  simp only [Sem.run_bind, partsC, Result.andThen]
  simp [ReflectliteValue.isNil, loadVar, isAgg, underlying, Tryd.underlying135, ha, Result.andThen]
theorem elemC (w : World) : (ReflectliteType.method ReflectliteType.elem #[.agg #[.pointer (some ⟨7, 135, none⟩)]]).run Tryd.prog w = .ok (.iface 172 (.agg #[.pointer (some ⟨7, 94, none⟩)])) w := by kernel_rfl
theorem implementsC (w : World) : (ReflectliteType.relation "Implements" ReflectliteType.implements_ #[.agg #[.pointer (some ⟨7, 94, none⟩)], .iface 172 (.agg #[.pointer (some ⟨7, 47, none⟩)])]).run Tryd.prog w = .ok (.bool true) w := by kernel_rfl
theorem elemOfC (w : World) : (Rtype.elem? 135).run Tryd.prog w = .ok (some 94) w := by kernel_rfl
theorem mkC (p : Addr) (w : World) : (ReflectliteValue.mk 94 p ReflectliteValue.flagAddr).run Tryd.prog w = .ok (.agg #[.pointer (some ⟨7, 94, none⟩), .pointer (some p), .int .u64 386]) w := by kernel_rfl
theorem elemVC (a p : Addr) (W : World) (ha : W.cell? a = some (.pointer (some p))) :
    (ReflectliteValue.method (ReflectliteValue.valueError "reflectlite.Value.Elem" 0) ReflectliteValue.elem #[.agg #[.pointer (some ⟨7, 135, none⟩), .pointer (some a), .int .u64 150]]).run Tryd.prog W = .ok (.agg #[.pointer (some ⟨7, 94, none⟩), .pointer (some p), .int .u64 386]) W := by
  rw [rlm]
  simp only [Sem.run_bind, partsC, Result.andThen]
  simp [ReflectliteValue.elem, loadVar, isAgg, underlying, Tryd.underlying135, ha, Result.andThen, elemOfC, mkC]
theorem partsCa (a : Addr) (w : World) : (ReflectliteValue.parts (.agg #[.pointer (some ⟨7, 94, none⟩), .pointer (some a), .int .u64 386])).run Tryd.prog w = .ok (some (94, a, 386)) w := by kernel_rfl
theorem partsCv (a : Addr) (w : World) : (ReflectliteValue.parts (.agg #[.pointer (some ⟨7, 94, none⟩), .pointer (some a), .int .u64 130])).run Tryd.prog w = .ok (some (94, a, 130)) w := by kernel_rfl
theorem directC (w : World) : (Rtype.directlyAssignable 94 94).run Tryd.prog w = .ok true w := by kernel_rfl
theorem unpackC (c : Int) (w : World) : (ReflectliteValue.unpack (.iface 94 (.int .i64 c))).run Tryd.prog w = .ok (.agg #[.pointer (some ⟨7, 94, none⟩), .pointer (some ⟨w.heap.size, 0, none⟩), .int .u64 130]) (w.alloc (.cells #[.int .i64 c] 94)) := by kernel_rfl

/-! ### the target *api.Fault -/
theorem valueOfF (t : Addr) (w : World) : (ReflectliteValue.unpack (.iface 112 (.pointer (some t)))).run Tryd.prog w = .ok (.agg #[.pointer (some ⟨7, 112, none⟩), .pointer (some ⟨w.heap.size, 0, none⟩), .int .u64 150]) (w.alloc (.cells #[.pointer (some t)] 112)) := by kernel_rfl
theorem typeF (a : Addr) (w : World) : (ReflectliteValue.methodAny (ReflectliteValue.valueError "reflectlite.Value.Type" 0) (fun t _ _ _ => ReflectliteType.toType t) #[.agg #[.pointer (some ⟨7, 112, none⟩), .pointer (some a), .int .u64 150]]).run Tryd.prog w = .ok (.iface 172 (.agg #[.pointer (some ⟨7, 112, none⟩)])) w := by kernel_rfl
theorem kindPF (w : World) : ((ReflectliteType.abiMethod fun t => (fun a : Nat => Value.int IntKind.u8 (a : Int)) <$> Rtype.kind t) #[.pointer (some ⟨7, 112, none⟩)]).run Tryd.prog w = .ok (.int .u8 22) w := by kernel_rfl
theorem kindEF (w : World) : ((ReflectliteType.abiMethod fun t => (fun a : Nat => Value.int IntKind.u8 (a : Int)) <$> Rtype.kind t) #[.pointer (some ⟨7, 106, none⟩)]).run Tryd.prog w = .ok (.int .u8 25) w := by kernel_rfl
theorem partsF (a : Addr) (w : World) : (ReflectliteValue.parts (.agg #[.pointer (some ⟨7, 112, none⟩), .pointer (some a), .int .u64 150])).run Tryd.prog w = .ok (some (112, a, 150)) w := by kernel_rfl
theorem isNilF (a p : Addr) (W : World) (ha : W.cell? a = some (.pointer (some p))) :
    (ReflectliteValue.method (ReflectliteValue.valueError "reflectlite.Value.IsNil" 0) ReflectliteValue.isNil #[.agg #[.pointer (some ⟨7, 112, none⟩), .pointer (some a), .int .u64 150]]).run Tryd.prog W = .ok (.bool false) W := by
  rw [rlm]
  simp only [Sem.run_bind, partsF, Result.andThen]
  simp [ReflectliteValue.isNil, loadVar, isAgg, underlying, Tryd.underlying112, ha, Result.andThen]
theorem elemF (w : World) : (ReflectliteType.method ReflectliteType.elem #[.agg #[.pointer (some ⟨7, 112, none⟩)]]).run Tryd.prog w = .ok (.iface 172 (.agg #[.pointer (some ⟨7, 106, none⟩)])) w := by kernel_rfl
theorem implementsF (w : World) : (ReflectliteType.relation "Implements" ReflectliteType.implements_ #[.agg #[.pointer (some ⟨7, 106, none⟩)], .iface 172 (.agg #[.pointer (some ⟨7, 47, none⟩)])]).run Tryd.prog w = .ok (.bool true) w := by kernel_rfl
theorem elemOfF (w : World) : (Rtype.elem? 112).run Tryd.prog w = .ok (some 106) w := by kernel_rfl
theorem mkF (p : Addr) (w : World) : (ReflectliteValue.mk 106 p ReflectliteValue.flagAddr).run Tryd.prog w = .ok (.agg #[.pointer (some ⟨7, 106, none⟩), .pointer (some p), .int .u64 409]) w := by kernel_rfl
theorem elemVF (a p : Addr) (W : World) (ha : W.cell? a = some (.pointer (some p))) :
    (ReflectliteValue.method (ReflectliteValue.valueError "reflectlite.Value.Elem" 0) ReflectliteValue.elem #[.agg #[.pointer (some ⟨7, 112, none⟩), .pointer (some a), .int .u64 150]]).run Tryd.prog W = .ok (.agg #[.pointer (some ⟨7, 106, none⟩), .pointer (some p), .int .u64 409]) W := by
  rw [rlm]
  simp only [Sem.run_bind, partsF, Result.andThen]
  simp [ReflectliteValue.elem, loadVar, isAgg, underlying, Tryd.underlying112, ha, Result.andThen, elemOfF, mkF]
theorem partsFa (a : Addr) (w : World) : (ReflectliteValue.parts (.agg #[.pointer (some ⟨7, 106, none⟩), .pointer (some a), .int .u64 409])).run Tryd.prog w = .ok (some (106, a, 409)) w := by kernel_rfl
theorem partsFv (a : Addr) (w : World) : (ReflectliteValue.parts (.agg #[.pointer (some ⟨7, 106, none⟩), .pointer (some a), .int .u64 153])).run Tryd.prog w = .ok (some (106, a, 153)) w := by kernel_rfl
theorem directF (w : World) : (Rtype.directlyAssignable 106 106).run Tryd.prog w = .ok true w := by kernel_rfl
theorem unpackF (c at_ : Int) (w : World) : (ReflectliteValue.unpack (.iface 106 (.agg #[.int .i64 c, .int .i64 at_]))).run Tryd.prog w = .ok (.agg #[.pointer (some ⟨7, 106, none⟩), .pointer (some ⟨w.heap.size, 0, none⟩), .int .u64 153]) (w.alloc (.cells #[.int .i64 c, .int .i64 at_] 106)) := by kernel_rfl

/-! ### the target *fault.placed -/
theorem valueOfP (t : Addr) (w : World) : (ReflectliteValue.unpack (.iface 141 (.pointer (some t)))).run Tryd.prog w = .ok (.agg #[.pointer (some ⟨7, 141, none⟩), .pointer (some ⟨w.heap.size, 0, none⟩), .int .u64 150]) (w.alloc (.cells #[.pointer (some t)] 141)) := by kernel_rfl
theorem typeP (a : Addr) (w : World) : (ReflectliteValue.methodAny (ReflectliteValue.valueError "reflectlite.Value.Type" 0) (fun t _ _ _ => ReflectliteType.toType t) #[.agg #[.pointer (some ⟨7, 141, none⟩), .pointer (some a), .int .u64 150]]).run Tryd.prog w = .ok (.iface 172 (.agg #[.pointer (some ⟨7, 141, none⟩)])) w := by kernel_rfl
theorem kindPP (w : World) : ((ReflectliteType.abiMethod fun t => (fun a : Nat => Value.int IntKind.u8 (a : Int)) <$> Rtype.kind t) #[.pointer (some ⟨7, 141, none⟩)]).run Tryd.prog w = .ok (.int .u8 22) w := by kernel_rfl
theorem kindEP (w : World) : ((ReflectliteType.abiMethod fun t => (fun a : Nat => Value.int IntKind.u8 (a : Int)) <$> Rtype.kind t) #[.pointer (some ⟨7, 140, none⟩)]).run Tryd.prog w = .ok (.int .u8 25) w := by kernel_rfl
theorem partsP (a : Addr) (w : World) : (ReflectliteValue.parts (.agg #[.pointer (some ⟨7, 141, none⟩), .pointer (some a), .int .u64 150])).run Tryd.prog w = .ok (some (141, a, 150)) w := by kernel_rfl
theorem isNilP (a p : Addr) (W : World) (ha : W.cell? a = some (.pointer (some p))) :
    (ReflectliteValue.method (ReflectliteValue.valueError "reflectlite.Value.IsNil" 0) ReflectliteValue.isNil #[.agg #[.pointer (some ⟨7, 141, none⟩), .pointer (some a), .int .u64 150]]).run Tryd.prog W = .ok (.bool false) W := by
  rw [rlm]
  simp only [Sem.run_bind, partsP, Result.andThen]
  simp [ReflectliteValue.isNil, loadVar, isAgg, underlying, Tryd.underlying141, ha, Result.andThen]
theorem elemP (w : World) : (ReflectliteType.method ReflectliteType.elem #[.agg #[.pointer (some ⟨7, 141, none⟩)]]).run Tryd.prog w = .ok (.iface 172 (.agg #[.pointer (some ⟨7, 140, none⟩)])) w := by kernel_rfl
theorem implementsP (w : World) : (ReflectliteType.relation "Implements" ReflectliteType.implements_ #[.agg #[.pointer (some ⟨7, 140, none⟩)], .iface 172 (.agg #[.pointer (some ⟨7, 47, none⟩)])]).run Tryd.prog w = .ok (.bool true) w := by kernel_rfl
theorem elemOfP (w : World) : (Rtype.elem? 141).run Tryd.prog w = .ok (some 140) w := by kernel_rfl
theorem mkP (p : Addr) (w : World) : (ReflectliteValue.mk 140 p ReflectliteValue.flagAddr).run Tryd.prog w = .ok (.agg #[.pointer (some ⟨7, 140, none⟩), .pointer (some p), .int .u64 409]) w := by kernel_rfl
theorem elemVP (a p : Addr) (W : World) (ha : W.cell? a = some (.pointer (some p))) :
    (ReflectliteValue.method (ReflectliteValue.valueError "reflectlite.Value.Elem" 0) ReflectliteValue.elem #[.agg #[.pointer (some ⟨7, 141, none⟩), .pointer (some a), .int .u64 150]]).run Tryd.prog W = .ok (.agg #[.pointer (some ⟨7, 140, none⟩), .pointer (some p), .int .u64 409]) W := by
  rw [rlm]
  simp only [Sem.run_bind, partsP, Result.andThen]
  simp [ReflectliteValue.elem, loadVar, isAgg, underlying, Tryd.underlying141, ha, Result.andThen, elemOfP, mkP]
theorem partsPa (a : Addr) (w : World) : (ReflectliteValue.parts (.agg #[.pointer (some ⟨7, 140, none⟩), .pointer (some a), .int .u64 409])).run Tryd.prog w = .ok (some (140, a, 409)) w := by kernel_rfl
theorem partsPv (a : Addr) (w : World) : (ReflectliteValue.parts (.agg #[.pointer (some ⟨7, 140, none⟩), .pointer (some a), .int .u64 153])).run Tryd.prog w = .ok (some (140, a, 153)) w := by kernel_rfl
theorem directP (w : World) : (Rtype.directlyAssignable 140 140).run Tryd.prog w = .ok true w := by kernel_rfl
theorem unpackP (k : Int) (e : Value) (w : World) : (ReflectliteValue.unpack (.iface 140 (.agg #[.int .i64 k, e]))).run Tryd.prog w = .ok (.agg #[.pointer (some ⟨7, 140, none⟩), .pointer (some ⟨w.heap.size, 0, none⟩), .int .u64 153]) (w.alloc (.cells #[.int .i64 k, e] 140)) := by kernel_rfl
theorem typeOfC (v : Value) (w : World) : (ReflectliteType.typeOf #[.iface 94 v]).run Tryd.prog w = .ok (.iface 172 (.agg #[.pointer (some ⟨7, 94, none⟩)])) w := by kernel_rfl
theorem assignableCC (w : World) : (ReflectliteType.relation "AssignableTo" ReflectliteType.assignableTo #[.agg #[.pointer (some ⟨7, 94, none⟩)], .iface 172 (.agg #[.pointer (some ⟨7, 94, none⟩)])]).run Tryd.prog w = .ok (.bool true) w := by kernel_rfl
theorem assignableCF (w : World) : (ReflectliteType.relation "AssignableTo" ReflectliteType.assignableTo #[.agg #[.pointer (some ⟨7, 94, none⟩)], .iface 172 (.agg #[.pointer (some ⟨7, 106, none⟩)])]).run Tryd.prog w = .ok (.bool false) w := by kernel_rfl
theorem assignableCP (w : World) : (ReflectliteType.relation "AssignableTo" ReflectliteType.assignableTo #[.agg #[.pointer (some ⟨7, 94, none⟩)], .iface 172 (.agg #[.pointer (some ⟨7, 140, none⟩)])]).run Tryd.prog w = .ok (.bool false) w := by kernel_rfl
theorem typeOfF (v : Value) (w : World) : (ReflectliteType.typeOf #[.iface 106 v]).run Tryd.prog w = .ok (.iface 172 (.agg #[.pointer (some ⟨7, 106, none⟩)])) w := by kernel_rfl
theorem assignableFC (w : World) : (ReflectliteType.relation "AssignableTo" ReflectliteType.assignableTo #[.agg #[.pointer (some ⟨7, 106, none⟩)], .iface 172 (.agg #[.pointer (some ⟨7, 94, none⟩)])]).run Tryd.prog w = .ok (.bool false) w := by kernel_rfl
theorem assignableFF (w : World) : (ReflectliteType.relation "AssignableTo" ReflectliteType.assignableTo #[.agg #[.pointer (some ⟨7, 106, none⟩)], .iface 172 (.agg #[.pointer (some ⟨7, 106, none⟩)])]).run Tryd.prog w = .ok (.bool true) w := by kernel_rfl
theorem assignableFP (w : World) : (ReflectliteType.relation "AssignableTo" ReflectliteType.assignableTo #[.agg #[.pointer (some ⟨7, 106, none⟩)], .iface 172 (.agg #[.pointer (some ⟨7, 140, none⟩)])]).run Tryd.prog w = .ok (.bool false) w := by kernel_rfl
theorem typeOfP (v : Value) (w : World) : (ReflectliteType.typeOf #[.iface 140 v]).run Tryd.prog w = .ok (.iface 172 (.agg #[.pointer (some ⟨7, 140, none⟩)])) w := by kernel_rfl
theorem assignablePC (w : World) : (ReflectliteType.relation "AssignableTo" ReflectliteType.assignableTo #[.agg #[.pointer (some ⟨7, 140, none⟩)], .iface 172 (.agg #[.pointer (some ⟨7, 94, none⟩)])]).run Tryd.prog w = .ok (.bool false) w := by kernel_rfl
theorem assignablePF (w : World) : (ReflectliteType.relation "AssignableTo" ReflectliteType.assignableTo #[.agg #[.pointer (some ⟨7, 140, none⟩)], .iface 172 (.agg #[.pointer (some ⟨7, 106, none⟩)])]).run Tryd.prog w = .ok (.bool false) w := by kernel_rfl
theorem assignablePP (w : World) : (ReflectliteType.relation "AssignableTo" ReflectliteType.assignableTo #[.agg #[.pointer (some ⟨7, 140, none⟩)], .iface 172 (.agg #[.pointer (some ⟨7, 140, none⟩)])]).run Tryd.prog w = .ok (.bool true) w := by kernel_rfl
theorem typeOfO (v : Value) (w : World) : (ReflectliteType.typeOf #[.iface 148 v]).run Tryd.prog w = .ok (.iface 172 (.agg #[.pointer (some ⟨7, 148, none⟩)])) w := by kernel_rfl
theorem assignableOC (w : World) : (ReflectliteType.relation "AssignableTo" ReflectliteType.assignableTo #[.agg #[.pointer (some ⟨7, 148, none⟩)], .iface 172 (.agg #[.pointer (some ⟨7, 94, none⟩)])]).run Tryd.prog w = .ok (.bool false) w := by kernel_rfl
theorem assignableOF (w : World) : (ReflectliteType.relation "AssignableTo" ReflectliteType.assignableTo #[.agg #[.pointer (some ⟨7, 148, none⟩)], .iface 172 (.agg #[.pointer (some ⟨7, 106, none⟩)])]).run Tryd.prog w = .ok (.bool false) w := by kernel_rfl
theorem assignableOP (w : World) : (ReflectliteType.relation "AssignableTo" ReflectliteType.assignableTo #[.agg #[.pointer (some ⟨7, 148, none⟩)], .iface 172 (.agg #[.pointer (some ⟨7, 140, none⟩)])]).run Tryd.prog w = .ok (.bool false) w := by kernel_rfl

/-- What the variable errors.errorType holds. -/
def ErrType (w : World) : Prop := w.cell? ⟨3, 0, none⟩ = some (.iface 172 (.agg #[.pointer (some ⟨7, 47, none⟩)]))
theorem ErrType.lt {w : World} (h : ErrType w) : 3 < w.heap.size := World.block_lt_of_cell? w _ h
theorem ErrType.below {w w' : World} (h : ErrType w) (hb : Below w.heap.size w w') : ErrType w' := (hb.cell (p := ⟨3, 0, none⟩) h.lt).trans h
end Go.Proofs.YtcegipkhmibdeaaDoor
/- What comes in, read for the walks: an operation by value, a slice of int64; what the listed handle gives. -/
namespace Go.Proofs.YtcegipkhmibdeaaDoor
set_option linter.all false
open Go.ChangeShapes Go.WideShapes Go.ChangeAt Go.WideMaps Go.WideElems Go.RowKit

theorem gErr : Tryd.prog.globalNamed "errors.errorType" = some 3 := by kernel_rfl
theorem tErr : (Tryd.prog.cutTypes.find? (·.1 == "internal/reflectlite.rtype")).map (·.2) = some 172 := by kernel_rfl
theorem errRow : ((List.range Tryd.prog.types.size).filter fun t => Tryd.prog.rowNamed t [101, 114, 114, 111, 114]) = [47] := by kernel_rfl
theorem errHandle : typeHandle Tryd.prog 47 = .pointer (some ⟨7, 47, none⟩) := by kernel_rfl
theorem errType_of_handles {W : World} {l : List (String × DataW Unit)} (h : handlesMet Tryd.prog l W) (hx : ("errors.errorType", Rows.laid_errors_errorType) ∈ l) : ErrType W := by
  have h' : ∃ name u ty, (Rows.laid_errors_errorType (H := Unit)).handleName? = some name ∧ (Tryd.prog.cutTypes.find? (·.1 == "internal/reflectlite.rtype")).map (·.2) = some u ∧ ty < Tryd.prog.types.size ∧ Tryd.prog.rowNamed ty name = true ∧
      W.var? Tryd.prog "errors.errorType" = some #[.iface u (.agg #[typeHandle Tryd.prog ty])] := h _ hx
  obtain ⟨name, u, ty, e1, e2, e3, e4, e5⟩ := h'
  have en : name = [101, 114, 114, 111, 114] := (Option.some.inj e1).symm
  subst en
  obtain rfl := Option.some.inj (tErr.symm.trans e2)
  have hm : ty ∈ (List.range Tryd.prog.types.size).filter fun t => Tryd.prog.rowNamed t [101, 114, 114, 111, 114] := List.mem_filter.2 ⟨List.mem_range.2 e3, e4⟩
  rw [errRow] at hm
  obtain rfl := List.mem_singleton.1 hm
  rw [errHandle] at e5
  simpa [ErrType] using World.var?_cell gErr e5 0

/-- A slice of int64 that came in, as the walks read it. -/
theorem ints64_of {H : Type} {enc : TypeId × Value → H} {W : World} {base : Nat} {a : Option Addr} {len cap fuel : Nat} {x : DataW H × List MemPlace} {sp : Nat → Bool} {held : Bool}
    (hf : DataW.trod enc Tryd.prog W base sp held fuel 39 [.slice a len cap] = some x) : ∃ zs, zs.length = len ∧ IntsAt W (.slice a len cap) zs := by
  rcases open_ints Tryd.underlying39 Tryd.underlying2 (by kernel_rfl) hf with ⟨hcs, _⟩ | ⟨y, l, c, zs, hcs, _, hl, hm, hz, hx, hcell, hwz⟩
  · simp at hcs
    obtain ⟨rfl, rfl, rfl⟩ := hcs
    exact ⟨[], rfl, _, _, rfl, .inl rfl⟩
  · simp at hcs
    obtain ⟨rfl, rfl, rfl⟩ := hcs
    have hzl : len ≤ zs.length := by rw [hz]; split <;> omega
    by_cases h0 : len = 0
    · subst h0; exact ⟨[], rfl, _, _, rfl, .inl rfl⟩
    · obtain ⟨b, off, rfl, hc⟩ := ints_at hcell (by omega)
      have hb : b < W.heap.size := by
        have := hc 0 (by omega)
        rcases Nat.lt_or_ge b W.heap.size with h1 | h1
        · exact h1
        · simp [World.cell?, Array.getElem?_eq_none h1] at this
      refine ⟨zs.take len, by simp; omega, _, cap, by simp [Nat.min_eq_left hzl], .inr ⟨b, off, rfl, hb, fun j hj => ?_⟩⟩
      simp only [List.length_take] at hj
      rw [hc j (by omega), List.getD_eq_getElem?_getD, List.getD_eq_getElem?_getD, List.getElem?_take, if_pos (by omega)]

theorem array6 {α : Type} {cs : Array α} (h : cs.size = 6) : ∃ c0 c1 c2 c3 c4 c5, cs = #[c0, c1, c2, c3, c4, c5] := by
  obtain ⟨l⟩ := cs
  match l, h with
  | [c0, c1, c2, c3, c4, c5], _ => exact ⟨c0, c1, c2, c3, c4, c5, rfl⟩
theorem cellsOp : Tryd.prog.cellsOf 41 = 6 := by kernel_rfl
theorem cellsInt : Tryd.prog.cellsOf 3 = 1 := by kernel_rfl
theorem cellsBool : Tryd.prog.cellsOf 4 = 1 := by kernel_rfl
theorem cellsI64s : Tryd.prog.cellsOf 39 = 1 := by kernel_rfl
/-- One field of a struct that came in. -/
theorem field_at {H : Type} {enc : TypeId × Value → H} {P : Program} {W : World} {base n : Nat} {sp : Nat → Bool} {held : Bool} {fs : Array Field} {cs : List Value} {xs : List (DataW H × List MemPlace)} (hlen : xs.length = fs.size)
    (hf : ∀ (i : Nat) (f : Field), fs[i]? = some f → DataW.trod enc P W base sp held n f.type ((cs.drop f.offset).take (P.cellsOf f.type)) = xs[i]?) (i : Nat) (f : Field) (h : fs[i]? = some f) :
    ∃ y, DataW.trod enc P W base sp held n f.type ((cs.drop f.offset).take (P.cellsOf f.type)) = some y := by
  have hi : i < fs.size := (Array.getElem?_eq_some_iff.1 h).1
  exact ⟨_, (hf i f h).trans (List.getElem?_eq_getElem (by rw [hlen]; exact hi))⟩
set_option maxRecDepth 100000 in
/-- An operation that came in by value. -/
theorem open_op {H : Type} {enc : TypeId × Value → H} {W : World} {b0 : Nat} {r : Reach} {base : Nat} {sp : Nat → Bool} {held : Bool} {v : Value} {d : DataW H} {p : List MemPlace}
    (hv : Value.okWide Tryd.prog W r b0 41 v) (h : DataW.Trod enc Tryd.prog W base sp held 41 v d p) :
    ∃ k i c n f a l cp zs, v = opV k i c n f (.slice a l cp) ∧ zs.length = l ∧ IntsAt W (.slice a l cp) zs := by
  have hs := Tryd.underlying41
  obtain ⟨cs, rfl, hsz⟩ := okWide_struct hs hv
  obtain ⟨c0, c1, c2, c3, c4, c5, rfl⟩ := array6 (hsz.trans cellsOp)
  obtain ⟨fuel, hf⟩ := h
  obtain ⟨xs, n, _, _, _, hlen, hf⟩ := DataW.trod_struct hs hf
  change ∀ (i : Nat) (f : Field), _ → DataW.trod enc Tryd.prog W base sp held n f.type (([c0, c1, c2, c3, c4, c5].drop f.offset).take (Tryd.prog.cellsOf f.type)) = xs[i]? at hf
  obtain ⟨y0, h0⟩ := field_at hlen hf 0 _ rfl
  obtain ⟨y1, h1⟩ := field_at hlen hf 1 _ rfl
  obtain ⟨y2, h2⟩ := field_at hlen hf 2 _ rfl
  obtain ⟨y3, h3⟩ := field_at hlen hf 3 _ rfl
  obtain ⟨y4, h4⟩ := field_at hlen hf 4 _ rfl
  obtain ⟨y5, h5⟩ := field_at hlen hf 5 _ rfl
  clear hf
  have g0 : DataW.trod enc Tryd.prog W base sp held n 3 (([c0, c1, c2, c3, c4, c5].drop 0).take (Tryd.prog.cellsOf 3)) = some y0 := h0
  rw [cellsInt] at g0
  replace h0 : DataW.trod enc Tryd.prog W base sp held n 3 [c0] = some y0 := g0
  have g1 : DataW.trod enc Tryd.prog W base sp held n 3 (([c0, c1, c2, c3, c4, c5].drop 1).take (Tryd.prog.cellsOf 3)) = some y1 := h1
  rw [cellsInt] at g1
  replace h1 : DataW.trod enc Tryd.prog W base sp held n 3 [c1] = some y1 := g1
  have g2 : DataW.trod enc Tryd.prog W base sp held n 3 (([c0, c1, c2, c3, c4, c5].drop 2).take (Tryd.prog.cellsOf 3)) = some y2 := h2
  rw [cellsInt] at g2
  replace h2 : DataW.trod enc Tryd.prog W base sp held n 3 [c2] = some y2 := g2
  have g3 : DataW.trod enc Tryd.prog W base sp held n 3 (([c0, c1, c2, c3, c4, c5].drop 3).take (Tryd.prog.cellsOf 3)) = some y3 := h3
  rw [cellsInt] at g3
  replace h3 : DataW.trod enc Tryd.prog W base sp held n 3 [c3] = some y3 := g3
  have g4 : DataW.trod enc Tryd.prog W base sp held n 4 (([c0, c1, c2, c3, c4, c5].drop 4).take (Tryd.prog.cellsOf 4)) = some y4 := h4
  rw [cellsBool] at g4
  replace h4 : DataW.trod enc Tryd.prog W base sp held n 4 [c4] = some y4 := g4
  have g5 : DataW.trod enc Tryd.prog W base sp held n 39 (([c0, c1, c2, c3, c4, c5].drop 5).take (Tryd.prog.cellsOf 39)) = some y5 := h5
  rw [cellsI64s] at g5
  replace h5 : DataW.trod enc Tryd.prog W base sp held n 39 [c5] = some y5 := g5
  obtain ⟨k, e0, -, -⟩ := DataW.trod_int Tryd.underlying3 h0
  obtain ⟨i, e1, -, -⟩ := DataW.trod_int Tryd.underlying3 h1
  obtain ⟨c, e2, -, -⟩ := DataW.trod_int Tryd.underlying3 h2
  obtain ⟨m, e3, -, -⟩ := DataW.trod_int Tryd.underlying3 h3
  obtain ⟨f, e4, -⟩ := DataW.trod_bool Tryd.underlying4 h4
  obtain ⟨a, l, cp, e5⟩ := Go.Joins.slice_form Tryd.underlying39 h5
  simp only [List.cons.injEq, and_true] at e0 e1 e2 e3 e4 e5
  subst e0 e1 e2 e3 e4 e5
  obtain ⟨zs, hl, hI⟩ := ints64_of h5
  exact ⟨k, i, c, m, f, a, l, cp, zs, rfl, hl, hI⟩
end Go.Proofs.YtcegipkhmibdeaaDoor
/- Comparisons of vectors: hammockref01.Fits, hammockref01.Same, slices.Equal, vec.Same. -/
namespace Go.Proofs.YtcegipkhmibdeaaDoor
set_option linter.all false
open Go.RowKit

def fitsP : List Int → List Int → Bool
  | x :: xs, y :: ys => if x ≤ y then fitsP xs ys else false
  | [], [] => true
  | _, _ => false
theorem fitsP_both : ∀ xs ys : List Int, (fitsP xs ys && fitsP ys xs) = (xs == ys)
  | [], [] => rfl
  | [], _ :: _ => rfl
  | _ :: _, [] => rfl
  | x :: xs, y :: ys => by
    have ih := fitsP_both xs ys
    simp only [fitsP]
    by_cases h1 : x ≤ y
    · by_cases h2 : y ≤ x
      · have : x = y := by omega
        subst this
        rw [if_pos h1, if_pos h2, ih]
        simp
      · have : (x == y) = false := by simp; omega
        rw [if_neg h2, Bool.and_false]
        show _ = (x == y && xs == ys)
        rw [this]; rfl
    · have : (x == y) = false := by simp; omega
      rw [if_neg h1, Bool.false_and]
      show _ = (x == y && xs == ys)
      rw [this]; rfl
theorem fitsP_step {xs ys : List Int} {k : Nat} (h1 : k < xs.length) (h2 : k < ys.length) : fitsP (xs.drop k) (ys.drop k) = if xs.getD k 0 ≤ ys.getD k 0 then fitsP (xs.drop (k + 1)) (ys.drop (k + 1)) else false := by
  rw [List.drop_eq_getElem_cons h1, List.drop_eq_getElem_cons h2, fitsP, List.getD_eq_getElem?_getD, List.getD_eq_getElem?_getD, List.getElem?_eq_getElem h1, List.getElem?_eq_getElem h2]; rfl
theorem fitsP_len {xs ys : List Int} (h : xs = [] ∨ ys = []) : fitsP xs ys = ((xs.length : Int) == (ys.length : Int)) := by
  rcases h with rfl | rfl
  · cases ys
    · rfl
    · simp [fitsP]; omega
  · cases xs
    · rfl
    · simp [fitsP]; omega

set_option maxRecDepth 100000 in
theorem fits_some (b1 off1 cap1 b2 off2 cap2 : Nat) (xs ys : List Int) (w : World) (hx : xs.length * 8 ≤ 140737488351232) (hy : ys.length * 8 ≤ 140737488351232)
    (hc1 : ∀ j, j < xs.length → w.cell? ⟨b1, off1 + j, none⟩ = some (.int .i64 (xs.getD j 0))) (hc2 : ∀ j, j < ys.length → w.cell? ⟨b2, off2 + j, none⟩ = some (.int .i64 (ys.getD j 0))) :
    Calls Tryd.prog 100 #[.slice (some ⟨b1, off1, none⟩) xs.length cap1, .slice (some ⟨b2, off2, none⟩) ys.length cap2] w fun e w' => e = .returned (.bool (fitsP xs ys)) ∧ Below w.heap.size w w' := by
  obtain ⟨l1, hl1⟩ : ∃ n, n = xs.length := ⟨_, rfl⟩
  obtain ⟨l2, hl2⟩ : ∃ n, n = ys.length := ⟨_, rfl⟩
  rw [← hl1] at hx hc1 ⊢
  rw [← hl2] at hy hc2 ⊢
  have HL1 := Lib.hid hl1; clear hl1
  have HL2 := Lib.hid hl2; clear hl2
  have HC1 := Lib.hid hc1; clear hc1
  have HC2 := Lib.hid hc2; clear hc2
  go_enter Tryd.func100, Tryd.ntmps100
  go_wp2
  go_loopw [5] (fun i wr => ∃ k : Nat, k ≤ l1 ∧ k ≤ l2 ∧ i = .int .i64 k ∧ Hid (fitsP xs ys = fitsP (xs.drop k) (ys.drop k)) ∧ ∃ m, wr = w.drewN m) (fun i _ => l1 - (intOf i).toNat)
  case atStart => exact ⟨0, Nat.zero_le _, Nat.zero_le _, rfl, rfl, 0, rfl⟩
  case round =>
    obtain ⟨k, hk1, hk2, rfl, hrun, m, rfl⟩ := hrel
    by_cases hlt1 : k < l1
    · by_cases hlt2 : k < l2
      · obtain ⟨x, hxk⟩ : ∃ x, x = xs.getD k 0 := ⟨_, rfl⟩
        obtain ⟨y, hyk⟩ : ∃ y, y = ys.getD k 0 := ⟨_, rfl⟩
        have h1 : w.cell? ⟨b1, off1 + k, none⟩ = some (.int .i64 x) := by rw [hxk]; exact HC1.out k hlt1
        have h2 : w.cell? ⟨b2, off2 + k, none⟩ = some (.int .i64 y) := by rw [hyk]; exact HC2.out k hlt2
        have hs := fitsP_step (xs := xs) (ys := ys) (k := k) (by rw [← HL1.out]; exact hlt1) (by rw [← HL2.out]; exact hlt2)
        rw [← hxk, ← hyk] at hs
        clear hxk hyk
        have hki : (0 : Int) ≤ (k : Int) := by omega
        have hk1i : (k : Int) < (l1 : Int) := by omega
        have hk2i : (k : Int) < (l2 : Int) := by omega
        by_cases hxy : x ≤ y
        · have hfin : Hid (fitsP xs ys = fitsP (xs.drop (k + 1)) (ys.drop (k + 1))) := by rw [hrun.out, hs, if_pos hxy]; rfl
          clear hs hrun
          go_wp2
          go_quiet (fail)
          go_wp2
          go_roundw
          case rel => exact ⟨k + 1, by omega, by omega, by go_num, hfin, _, rfl⟩
          case measure => simp [intOf]; omega
        · have hfin : Hid (fitsP xs ys = false) := by rw [hrun.out, hs, if_neg hxy]; rfl
          clear hs hrun
          go_wp2
          go_quiet (fail)
          go_wp2
          go_ret
          exact ⟨by rw [hfin.out]; rfl, below_drewN (below_drewN (Below.refl _ _) _) _⟩
      · have hfin : Hid (fitsP xs ys = ((l1 : Int) == (l2 : Int))) := by
          rw [hrun.out, fitsP_len (.inr (List.drop_eq_nil_of_le (by rw [← HL2.out]; omega)))]
          have := HL1.out; have := HL2.out
          simp only [List.length_drop, ← HL1.out, ← HL2.out]
          show _ = _
          rw [Bool.eq_iff_iff]; simp; omega
        clear hrun
        go_wp2
        go_ret
        exact ⟨by rw [hfin.out]; rfl, below_drewN (Below.refl _ _) _⟩
    · have hfin : Hid (fitsP xs ys = ((l1 : Int) == (l2 : Int))) := by
        rw [hrun.out, fitsP_len (.inl (List.drop_eq_nil_of_le (by rw [← HL1.out]; omega)))]
        have := HL1.out; have := HL2.out
        simp only [List.length_drop, ← HL1.out, ← HL2.out]
        show _ = _
        rw [Bool.eq_iff_iff]; simp; omega
      clear hrun
      go_wp2
      go_ret
      exact ⟨by rw [hfin.out]; rfl, below_drewN (Below.refl _ _) _⟩

/-- One of the two has no elements: no round. -/
theorem fits_none (a1 a2 : Option Addr) (l1 l2 cap1 cap2 : Nat) (w : World) (h : l1 = 0 ∨ l2 = 0) (h1 : l1 * 8 ≤ 140737488351232) (h2 : l2 * 8 ≤ 140737488351232) :
    Calls Tryd.prog 100 #[.slice a1 l1 cap1, .slice a2 l2 cap2] w fun e w' => e = .returned (.bool ((l1 : Int) == (l2 : Int))) ∧ w = w' := by
  rcases h with rfl | rfl
  all_goals
    go_enter Tryd.func100, Tryd.ntmps100
    go_wp2
    refine wp_loop_rounds 1 ?_
    rw [rounds_succ]
    go_wp2
    all_goals
      go_ret
      exact ⟨rfl, rfl⟩
theorem fits_any (v1 v2 : Value) (xs ys : List Int) (w : World) (hx : xs.length * 8 ≤ 140737488351232) (hy : ys.length * 8 ≤ 140737488351232) (h1 : IntsAt w v1 xs) (h2 : IntsAt w v2 ys) :
    Calls Tryd.prog 100 #[v1, v2] w fun e w' => e = .returned (.bool (fitsP xs ys)) ∧ Below w.heap.size w w' := by
  obtain ⟨a1, c1, rfl, h1⟩ := h1
  obtain ⟨a2, c2, rfl, h2⟩ := h2
  have none : xs = [] ∨ ys = [] → Calls Tryd.prog 100 #[.slice a1 xs.length c1, .slice a2 ys.length c2] w fun e w' => e = .returned (.bool (fitsP xs ys)) ∧ Below w.heap.size w w' := fun h =>
    (fits_none a1 a2 xs.length ys.length c1 c2 w (h.imp (fun h => by rw [h]; rfl) (fun h => by rw [h]; rfl)) hx hy).mono fun e w' ⟨he, hw⟩ => ⟨by rw [he, fitsP_len h], hw ▸ Below.refl _ _⟩
  rcases h1 with rfl | ⟨b1, o1, rfl, lt1, hc1⟩
  · exact none (.inl rfl)
  rcases h2 with rfl | ⟨b2, o2, rfl, lt2, hc2⟩
  · exact none (.inr rfl)
  exact fits_some b1 o1 c1 b2 o2 c2 xs ys w hx hy hc1 hc2

theorem same01_any (v1 v2 : Value) (xs ys : List Int) (w : World) (hx : xs.length * 8 ≤ 140737488351232) (hy : ys.length * 8 ≤ 140737488351232) (h1 : IntsAt w v1 xs) (h2 : IntsAt w v2 ys) :
    Calls Tryd.prog 47 #[v1, v2] w fun e w' => e = .returned (.bool (xs == ys)) ∧ Below w.heap.size w w' := by
  have hb := fitsP_both xs ys
  have c1 := fits_any v1 v2 xs ys
  have c2 := fits_any v2 v1 ys xs
  cases h : fitsP xs ys
  · rw [h] at c1
    rw [h, Bool.false_and] at hb
    rw [← hb]
    have C1 := Lib.hid c1; clear c1 c2 hb h
    go_enter Tryd.func47, Tryd.ntmps47
    go_wp2_with fail
    refine (C1.out w hx hy h1 h2).mono ?_
    rintro e w1 ⟨rfl, B1⟩
    go_wp2
    go_ret
    exact ⟨rfl, B1⟩
  · rw [h] at c1
    rw [h, Bool.true_and] at hb
    rw [hb] at c2
    have C1 := Lib.hid c1; clear c1
    have C2 := Lib.hid c2; clear c2 hb h
    cases hr : xs == ys
    all_goals
      rw [hr] at C2
      have C3 := Lib.hid C2; clear C2 hr
      go_enter Tryd.func47, Tryd.ntmps47
      go_wp2_with fail
      refine (C1.out w hx hy h1 h2).mono ?_
      rintro e w1 ⟨rfl, B1⟩
      have h2' := h2.below B1
      have h1' := h1.below B1
      go_wp2_with fail
      refine (C3.out.out _ hy hx h2' h1').mono ?_
      rintro e w2 ⟨rfl, B2⟩
      go_wp2
      go_ret
      exact ⟨rfl, B1.trans (B2.mono B1.size)⟩

theorem eq_step {xs ys : List Int} {k : Nat} (h1 : k < xs.length) (h2 : k < ys.length) : (xs.drop k == ys.drop k) = ((xs.getD k 0 == ys.getD k 0) && (xs.drop (k + 1) == ys.drop (k + 1))) := by
  rw [List.drop_eq_getElem_cons h1, List.drop_eq_getElem_cons h2, List.getD_eq_getElem?_getD, List.getD_eq_getElem?_getD, List.getElem?_eq_getElem h1, List.getElem?_eq_getElem h2]; rfl
set_option maxRecDepth 100000 in
theorem equal_some (b1 off1 cap1 b2 off2 cap2 : Nat) (xs ys : List Int) (w : World) (hx : xs.length * 8 ≤ 140737488351232) (hy : ys.length * 8 ≤ 140737488351232)
    (hc1 : ∀ j, j < xs.length → w.cell? ⟨b1, off1 + j, none⟩ = some (.int .i64 (xs.getD j 0))) (hc2 : ∀ j, j < ys.length → w.cell? ⟨b2, off2 + j, none⟩ = some (.int .i64 (ys.getD j 0))) :
    Calls Tryd.prog 118 #[.slice (some ⟨b1, off1, none⟩) xs.length cap1, .slice (some ⟨b2, off2, none⟩) ys.length cap2] w fun e w' => e = .returned (.bool (xs == ys)) ∧ Below w.heap.size w w' := by
  obtain ⟨l1, hl1⟩ : ∃ n, n = xs.length := ⟨_, rfl⟩
  obtain ⟨l2, hl2⟩ : ∃ n, n = ys.length := ⟨_, rfl⟩
  rw [← hl1] at hx hc1 ⊢
  rw [← hl2] at hy hc2 ⊢
  by_cases hll : l1 = l2
  · subst hll
    have HL1 := Lib.hid hl1; clear hl1
    have HL2 := Lib.hid hl2; clear hl2
    have HC1 := Lib.hid hc1; clear hc1
    have HC2 := Lib.hid hc2; clear hc2
    go_enter Tryd.func118, Tryd.ntmps118
    go_wp2
    go_loopw [13] (fun i wr => ∃ k : Nat, k ≤ l1 ∧ i = .int .i64 k ∧ Hid ((xs == ys) = (xs.drop k == ys.drop k)) ∧ ∃ m, wr = w.drewN m) (fun i _ => l1 - (intOf i).toNat)
    case atStart => exact ⟨0, Nat.zero_le _, rfl, rfl, 0, rfl⟩
    case round =>
      obtain ⟨k, hk1, rfl, hrun, m, rfl⟩ := hrel
      by_cases hlt1 : k < l1
      · obtain ⟨x, hxk⟩ : ∃ x, x = xs.getD k 0 := ⟨_, rfl⟩
        obtain ⟨y, hyk⟩ : ∃ y, y = ys.getD k 0 := ⟨_, rfl⟩
        have h1 : w.cell? ⟨b1, off1 + k, none⟩ = some (.int .i64 x) := by rw [hxk]; exact HC1.out k hlt1
        have h2 : w.cell? ⟨b2, off2 + k, none⟩ = some (.int .i64 y) := by rw [hyk]; exact HC2.out k hlt1
        have hs := eq_step (xs := xs) (ys := ys) (k := k) (by rw [← HL1.out]; exact hlt1) (by rw [← HL2.out]; exact hlt1)
        rw [← hxk, ← hyk] at hs
        clear hxk hyk
        have hki : (0 : Int) ≤ (k : Int) := by omega
        have hk1i : (k : Int) < (l1 : Int) := by omega
        by_cases hxy : x = y
        · have hfin : Hid ((xs == ys) = (xs.drop (k + 1) == ys.drop (k + 1))) := by rw [hrun.out, hs, hxy]; simp [Hid]
          clear hs hrun
          subst hxy
          go_wp2
          go_quiet (fail)
          go_wp2
          go_roundw
          case rel => exact ⟨k + 1, by omega, by go_num, hfin, _, rfl⟩
          case measure => simp [intOf]; omega
        · have hne : (x == y) = false := by simpa using hxy
          have hne' : (x != y) = true := by simpa using hxy
          have hfin : Hid ((xs == ys) = false) := by rw [hrun.out, hs, hne]; rfl
          clear hs hrun hxy
          go_wp2
          go_quiet (fail)
          go_wp2
          go_ret
          exact ⟨by rw [hfin.out]; rfl, below_drewN (below_drewN (Below.refl _ _) _) _⟩
      · have hfin : Hid ((xs == ys) = true) := by
          rw [hrun.out, List.drop_eq_nil_of_le (by rw [← HL1.out]; omega), List.drop_eq_nil_of_le (by rw [← HL2.out]; omega)]; rfl
        clear hrun
        go_wp2
        go_ret
        exact ⟨by rw [hfin.out]; rfl, below_drewN (Below.refl _ _) _⟩
  · have hne : (xs == ys) = false := by
      rw [beq_eq_false_iff_ne]; intro h; apply hll; rw [hl1, hl2, h]
    have hd : ((l1 : Int) != (l2 : Int)) = true := by simp; omega
    rw [hne]
    clear hc1 hc2 hne hl1 hl2 hll
    go_enter Tryd.func118, Tryd.ntmps118
    go_wp2
    go_ret
    exact ⟨rfl, Below.refl _ _⟩
theorem equal_ne (a1 a2 : Option Addr) (l1 l2 cap1 cap2 : Nat) (w : World) (h : l1 ≠ l2) (h1 : l1 * 8 ≤ 140737488351232) (h2 : l2 * 8 ≤ 140737488351232) :
    Calls Tryd.prog 118 #[.slice a1 l1 cap1, .slice a2 l2 cap2] w fun e w' => e = .returned (.bool false) ∧ w = w' := by
  have hd : ((l1 : Int) != (l2 : Int)) = true := by simp; omega
  clear h
  go_enter Tryd.func118, Tryd.ntmps118
  go_wp2
  go_ret
  exact ⟨rfl, rfl⟩
theorem equal_zero (a1 a2 : Option Addr) (cap1 cap2 : Nat) (w : World) :
    Calls Tryd.prog 118 #[.slice a1 0 cap1, .slice a2 0 cap2] w fun e w' => e = .returned (.bool true) ∧ w = w' := by
  go_enter Tryd.func118, Tryd.ntmps118
  go_wp2
  refine wp_loop_rounds 1 ?_
  rw [rounds_succ]
  go_wp2
  go_ret
  exact ⟨rfl, rfl⟩
theorem equal_any (v1 v2 : Value) (xs ys : List Int) (w : World) (hx : xs.length * 8 ≤ 140737488351232) (hy : ys.length * 8 ≤ 140737488351232) (h1 : IntsAt w v1 xs) (h2 : IntsAt w v2 ys) :
    Calls Tryd.prog 118 #[v1, v2] w fun e w' => e = .returned (.bool (xs == ys)) ∧ Below w.heap.size w w' := by
  obtain ⟨a1, c1, rfl, h1⟩ := h1
  obtain ⟨a2, c2, rfl, h2⟩ := h2
  by_cases hl : xs.length = ys.length
  · rcases h1 with rfl | ⟨b1, o1, rfl, lt1, hc1⟩
    · obtain rfl : ys = [] := List.eq_nil_of_length_eq_zero hl.symm
      exact (equal_zero a1 a2 c1 c2 w).mono fun e w' ⟨he, hw⟩ => ⟨he, hw ▸ Below.refl _ _⟩
    rcases h2 with rfl | ⟨b2, o2, rfl, lt2, hc2⟩
    · obtain rfl : xs = [] := List.eq_nil_of_length_eq_zero hl
      exact (equal_zero _ a2 c1 c2 w).mono fun e w' ⟨he, hw⟩ => ⟨he, hw ▸ Below.refl _ _⟩
    exact equal_some b1 o1 c1 b2 o2 c2 xs ys w hx hy hc1 hc2
  · have hne : (xs == ys) = false := by rw [beq_eq_false_iff_ne]; intro h; apply hl; rw [h]
    rw [hne]
    exact (equal_ne a1 a2 _ _ c1 c2 w hl hx hy).mono fun e w' ⟨he, hw⟩ => ⟨he, hw ▸ Below.refl _ _⟩
theorem vecSame_any (v1 v2 : Value) (xs ys : List Int) (w : World) (hx : xs.length * 8 ≤ 140737488351232) (hy : ys.length * 8 ≤ 140737488351232) (h1 : IntsAt w v1 xs) (h2 : IntsAt w v2 ys) :
    Calls Tryd.prog 95 #[v1, v2] w fun e w' => e = .returned (.bool (xs == ys)) ∧ Below w.heap.size w w' := by
  go_enter Tryd.func95, Tryd.ntmps95
  go_wp2_with fail
  refine (equal_any v1 v2 xs ys w hx hy h1 h2).mono ?_
  rintro e w1 ⟨rfl, B1⟩
  go_wp2
  go_ret
  exact ⟨rfl, B1⟩
end Go.Proofs.YtcegipkhmibdeaaDoor
/- Small words for walks: a world under a name at a call; a slice of two numbers. -/
namespace Go.Proofs.YtcegipkhmibdeaaDoor
set_option linter.all false
open Go.RowKit

/-- At a call, the world gets a name. -/
theorem calls_named {P : Program} {f : Nat} {args : Array Value} {X : World} {Q : Ending → World → Prop} (h : ∀ W, W = X → Calls P f args W Q) : Calls P f args X Q := h X rfl
theorem cell_lt {w : World} {b o : Nat} {v : Value} (h : w.cell? ⟨b, o, none⟩ = some v) : b < w.heap.size := by
  rcases Nat.lt_or_ge b w.heap.size with h1 | h1
  · exact h1
  · simp [World.cell?, Array.getElem?_eq_none h1] at h
/-- A cell below the mark keeps what it holds. -/
theorem keepc {n b o : Nat} {w w' : World} {v : Value} (h : Below n w w') (hb : b < n) (hc : w.cell? ⟨b, o, none⟩ = some v) : w'.cell? ⟨b, o, none⟩ = some v := (h.cell (p := ⟨b, o, none⟩) hb).trans hc
theorem keepl {b o : Nat} {w w' : World} {v : Value} (h : Below w.heap.size w w') (hc : w.cell? ⟨b, o, none⟩ = some v) : w'.cell? ⟨b, o, none⟩ = some v := keepc h (cell_lt hc) hc
theorem ints2 {w : World} {b : Nat} {x y : Int} (h0 : w.cell? ⟨b, 0, none⟩ = some (.int .i64 x)) (h1 : w.cell? ⟨b, 1, none⟩ = some (.int .i64 y)) : IntsAt w (.slice (some ⟨b, 0, none⟩) 2 2) [x, y] :=
  ⟨_, _, rfl, .inr ⟨b, 0, rfl, cell_lt h0, fun j hj => by
    match j, hj with
    | 0, _ => exact h0
    | 1, _ => exact h1⟩⟩
end Go.Proofs.YtcegipkhmibdeaaDoor
/- Pods as plain values; hammockref06.SamePod. -/
namespace Go.Proofs.YtcegipkhmibdeaaDoor
set_option linter.all false
open Go.RowKit

/-- A pod's fields. -/
structure Pod where
  id : Int
  prio : Int
  pre : Bool
  grace : Int
  req : List Int
  arr : Int
  ph : Int
  node : Int
  dead : Int
deriving DecidableEq
/-- A pod's value; rv is its request's slice. -/
abbrev podV (p : Pod) (rv : Value) : Value := .agg #[.int .i64 p.id, .int .i64 p.prio, .bool p.pre, .int .i64 p.grace, rv, .int .i64 p.arr, .int .i64 p.ph, .int .i64 p.node, .int .i64 p.dead]
theorem pod_eq (p q : Pod) : decide (p = q) = (p.id == q.id && p.prio == q.prio && p.pre == q.pre && p.grace == q.grace && p.req == q.req && p.arr == q.arr && p.ph == q.ph && p.node == q.node && p.dead == q.dead) := by
  cases p; cases q
  rw [Bool.eq_iff_iff]
  simp [and_assoc]

set_option maxRecDepth 100000 in
theorem samePod_0 (i1 i2 : Int) (b3 : Bool) (i4 : Int) (zs : List Int) (a : Option Addr) (l cp : Nat) (i6 i7 i8 i9 : Int) (j1 j2 : Int) (c3 : Bool) (j4 : Int) (zs' : List Int) (a' : Option Addr) (l' cp' : Nat) (j6 j7 j8 j9 : Int) (w : World)  (h0 : (i1 == j1) = false) :
    Calls Tryd.prog 67 #[.agg #[.int .i64 i1, .int .i64 i2, .bool b3, .int .i64 i4, .slice a l cp, .int .i64 i6, .int .i64 i7, .int .i64 i8, .int .i64 i9], .agg #[.int .i64 j1, .int .i64 j2, .bool c3, .int .i64 j4, .slice a' l' cp', .int .i64 j6, .int .i64 j7, .int .i64 j8, .int .i64 j9]] w fun e w' => e = .returned (.bool false) ∧ Below w.heap.size w w' := by
  go_enter Tryd.func67, Tryd.ntmps67
  go_wp2
  go_ret
  exact ⟨rfl, (by repeat (first | exact Below.refl _ _ | refine Below.drew ?_ | refine Below.alloc ?_ (by first | omega | (simp; done) | (simp; omega)) _))⟩
set_option maxRecDepth 100000 in
theorem samePod_1 (i1 i2 : Int) (b3 : Bool) (i4 : Int) (zs : List Int) (a : Option Addr) (l cp : Nat) (i6 i7 i8 i9 : Int) (j1 j2 : Int) (c3 : Bool) (j4 : Int) (zs' : List Int) (a' : Option Addr) (l' cp' : Nat) (j6 j7 j8 j9 : Int) (w : World) (h0 : (i1 == j1) = true) (h1 : (i2 == j2) = false) :
    Calls Tryd.prog 67 #[.agg #[.int .i64 i1, .int .i64 i2, .bool b3, .int .i64 i4, .slice a l cp, .int .i64 i6, .int .i64 i7, .int .i64 i8, .int .i64 i9], .agg #[.int .i64 j1, .int .i64 j2, .bool c3, .int .i64 j4, .slice a' l' cp', .int .i64 j6, .int .i64 j7, .int .i64 j8, .int .i64 j9]] w fun e w' => e = .returned (.bool false) ∧ Below w.heap.size w w' := by
  go_enter Tryd.func67, Tryd.ntmps67
  go_wp2
  go_ret
  exact ⟨rfl, (by repeat (first | exact Below.refl _ _ | refine Below.drew ?_ | refine Below.alloc ?_ (by first | omega | (simp; done) | (simp; omega)) _))⟩
set_option maxRecDepth 100000 in
theorem samePod_2 (i1 i2 : Int) (b3 : Bool) (i4 : Int) (zs : List Int) (a : Option Addr) (l cp : Nat) (i6 i7 i8 i9 : Int) (j1 j2 : Int) (c3 : Bool) (j4 : Int) (zs' : List Int) (a' : Option Addr) (l' cp' : Nat) (j6 j7 j8 j9 : Int) (w : World) (h0 : (i1 == j1) = true) (h1 : (i2 == j2) = true) (h2 : (b3 == c3) = false) :
    Calls Tryd.prog 67 #[.agg #[.int .i64 i1, .int .i64 i2, .bool b3, .int .i64 i4, .slice a l cp, .int .i64 i6, .int .i64 i7, .int .i64 i8, .int .i64 i9], .agg #[.int .i64 j1, .int .i64 j2, .bool c3, .int .i64 j4, .slice a' l' cp', .int .i64 j6, .int .i64 j7, .int .i64 j8, .int .i64 j9]] w fun e w' => e = .returned (.bool false) ∧ Below w.heap.size w w' := by
  go_enter Tryd.func67, Tryd.ntmps67
  go_wp2
  go_ret
  exact ⟨rfl, (by repeat (first | exact Below.refl _ _ | refine Below.drew ?_ | refine Below.alloc ?_ (by first | omega | (simp; done) | (simp; omega)) _))⟩
set_option maxRecDepth 100000 in
theorem samePod_3 (i1 i2 : Int) (b3 : Bool) (i4 : Int) (zs : List Int) (a : Option Addr) (l cp : Nat) (i6 i7 i8 i9 : Int) (j1 j2 : Int) (c3 : Bool) (j4 : Int) (zs' : List Int) (a' : Option Addr) (l' cp' : Nat) (j6 j7 j8 j9 : Int) (w : World) (h0 : (i1 == j1) = true) (h1 : (i2 == j2) = true) (h2 : (b3 == c3) = true) (h3 : (i4 == j4) = false) :
    Calls Tryd.prog 67 #[.agg #[.int .i64 i1, .int .i64 i2, .bool b3, .int .i64 i4, .slice a l cp, .int .i64 i6, .int .i64 i7, .int .i64 i8, .int .i64 i9], .agg #[.int .i64 j1, .int .i64 j2, .bool c3, .int .i64 j4, .slice a' l' cp', .int .i64 j6, .int .i64 j7, .int .i64 j8, .int .i64 j9]] w fun e w' => e = .returned (.bool false) ∧ Below w.heap.size w w' := by
  go_enter Tryd.func67, Tryd.ntmps67
  go_wp2
  go_ret
  exact ⟨rfl, (by repeat (first | exact Below.refl _ _ | refine Below.drew ?_ | refine Below.alloc ?_ (by first | omega | (simp; done) | (simp; omega)) _))⟩
set_option maxRecDepth 100000 in
theorem samePod_4 (i1 i2 : Int) (b3 : Bool) (i4 : Int) (zs : List Int) (a : Option Addr) (l cp : Nat) (i6 i7 i8 i9 : Int) (j1 j2 : Int) (c3 : Bool) (j4 : Int) (zs' : List Int) (a' : Option Addr) (l' cp' : Nat) (j6 j7 j8 j9 : Int) (w : World) (hx : zs.length * 8 ≤ 140737488351232) (hy : zs'.length * 8 ≤ 140737488351232) (h : IntsAt w (.slice a l cp) zs) (h' : IntsAt w (.slice a' l' cp') zs') (h0 : (i1 == j1) = true) (h1 : (i2 == j2) = true) (h2 : (b3 == c3) = true) (h3 : (i4 == j4) = true) (h4 : (zs == zs') = false) :
    Calls Tryd.prog 67 #[.agg #[.int .i64 i1, .int .i64 i2, .bool b3, .int .i64 i4, .slice a l cp, .int .i64 i6, .int .i64 i7, .int .i64 i8, .int .i64 i9], .agg #[.int .i64 j1, .int .i64 j2, .bool c3, .int .i64 j4, .slice a' l' cp', .int .i64 j6, .int .i64 j7, .int .i64 j8, .int .i64 j9]] w fun e w' => e = .returned (.bool false) ∧ Below w.heap.size w w' := by
  have HS := Lib.hid (same01_any (.slice a l cp) (.slice a' l' cp') zs zs')
  have hb0 : Below w.heap.size w ((w.alloc (.cells #[.int .i64 i1, .int .i64 i2, .bool b3, .int .i64 i4, .slice a l cp, .int .i64 i6, .int .i64 i7, .int .i64 i8, .int .i64 i9] 65)).alloc (.cells #[.int .i64 j1, .int .i64 j2, .bool c3, .int .i64 j4, .slice a' l' cp', .int .i64 j6, .int .i64 j7, .int .i64 j8, .int .i64 j9] 65)) := (by repeat (first | exact Below.refl _ _ | refine Below.drew ?_ | refine Below.alloc ?_ (by first | omega | (simp; done) | (simp; omega)) _))
  have hi := h.below hb0
  have hi' := h'.below hb0
  clear h h'
  rw [h4] at HS
  clear h4
  go_enter Tryd.func67, Tryd.ntmps67
  go_wp2_with fail
  refine (HS.out _ hx hy hi hi').mono ?_
  rintro e w1 ⟨rfl, B1⟩
  obtain ⟨hc, hf⟩ := bcell B1
  have r5 : w1.cell? ⟨w.heap.size, 5, none⟩ = some (.int .i64 i6) := by rw [hc _ _ (by simp; try omega)]; go_simp
  have r6 : w1.cell? ⟨w.heap.size, 6, none⟩ = some (.int .i64 i7) := by rw [hc _ _ (by simp; try omega)]; go_simp
  have r7 : w1.cell? ⟨w.heap.size, 7, none⟩ = some (.int .i64 i8) := by rw [hc _ _ (by simp; try omega)]; go_simp
  have r8 : w1.cell? ⟨w.heap.size, 8, none⟩ = some (.int .i64 i9) := by rw [hc _ _ (by simp; try omega)]; go_simp
  have s5 : w1.cell? ⟨w.heap.size + 1, 5, none⟩ = some (.int .i64 j6) := by rw [hc _ _ (by simp; try omega)]; go_simp
  have s6 : w1.cell? ⟨w.heap.size + 1, 6, none⟩ = some (.int .i64 j7) := by rw [hc _ _ (by simp; try omega)]; go_simp
  have s7 : w1.cell? ⟨w.heap.size + 1, 7, none⟩ = some (.int .i64 j8) := by rw [hc _ _ (by simp; try omega)]; go_simp
  have s8 : w1.cell? ⟨w.heap.size + 1, 8, none⟩ = some (.int .i64 j9) := by rw [hc _ _ (by simp; try omega)]; go_simp
  clear hc hf hi hi' hx hy
  go_wp2
  go_ret
  exact ⟨rfl, hb0.trans (B1.mono hb0.size)⟩
set_option maxRecDepth 100000 in
theorem samePod_5 (i1 i2 : Int) (b3 : Bool) (i4 : Int) (zs : List Int) (a : Option Addr) (l cp : Nat) (i6 i7 i8 i9 : Int) (j1 j2 : Int) (c3 : Bool) (j4 : Int) (zs' : List Int) (a' : Option Addr) (l' cp' : Nat) (j6 j7 j8 j9 : Int) (w : World) (hx : zs.length * 8 ≤ 140737488351232) (hy : zs'.length * 8 ≤ 140737488351232) (h : IntsAt w (.slice a l cp) zs) (h' : IntsAt w (.slice a' l' cp') zs') (h0 : (i1 == j1) = true) (h1 : (i2 == j2) = true) (h2 : (b3 == c3) = true) (h3 : (i4 == j4) = true) (h4 : (zs == zs') = true)  (h5 : (i6 == j6) = false) :
    Calls Tryd.prog 67 #[.agg #[.int .i64 i1, .int .i64 i2, .bool b3, .int .i64 i4, .slice a l cp, .int .i64 i6, .int .i64 i7, .int .i64 i8, .int .i64 i9], .agg #[.int .i64 j1, .int .i64 j2, .bool c3, .int .i64 j4, .slice a' l' cp', .int .i64 j6, .int .i64 j7, .int .i64 j8, .int .i64 j9]] w fun e w' => e = .returned (.bool false) ∧ Below w.heap.size w w' := by
  have HS := Lib.hid (same01_any (.slice a l cp) (.slice a' l' cp') zs zs')
  have hb0 : Below w.heap.size w ((w.alloc (.cells #[.int .i64 i1, .int .i64 i2, .bool b3, .int .i64 i4, .slice a l cp, .int .i64 i6, .int .i64 i7, .int .i64 i8, .int .i64 i9] 65)).alloc (.cells #[.int .i64 j1, .int .i64 j2, .bool c3, .int .i64 j4, .slice a' l' cp', .int .i64 j6, .int .i64 j7, .int .i64 j8, .int .i64 j9] 65)) := (by repeat (first | exact Below.refl _ _ | refine Below.drew ?_ | refine Below.alloc ?_ (by first | omega | (simp; done) | (simp; omega)) _))
  have hi := h.below hb0
  have hi' := h'.below hb0
  clear h h'
  rw [h4] at HS
  clear h4
  go_enter Tryd.func67, Tryd.ntmps67
  go_wp2_with fail
  refine (HS.out _ hx hy hi hi').mono ?_
  rintro e w1 ⟨rfl, B1⟩
  obtain ⟨hc, hf⟩ := bcell B1
  have r5 : w1.cell? ⟨w.heap.size, 5, none⟩ = some (.int .i64 i6) := by rw [hc _ _ (by simp; try omega)]; go_simp
  have r6 : w1.cell? ⟨w.heap.size, 6, none⟩ = some (.int .i64 i7) := by rw [hc _ _ (by simp; try omega)]; go_simp
  have r7 : w1.cell? ⟨w.heap.size, 7, none⟩ = some (.int .i64 i8) := by rw [hc _ _ (by simp; try omega)]; go_simp
  have r8 : w1.cell? ⟨w.heap.size, 8, none⟩ = some (.int .i64 i9) := by rw [hc _ _ (by simp; try omega)]; go_simp
  have s5 : w1.cell? ⟨w.heap.size + 1, 5, none⟩ = some (.int .i64 j6) := by rw [hc _ _ (by simp; try omega)]; go_simp
  have s6 : w1.cell? ⟨w.heap.size + 1, 6, none⟩ = some (.int .i64 j7) := by rw [hc _ _ (by simp; try omega)]; go_simp
  have s7 : w1.cell? ⟨w.heap.size + 1, 7, none⟩ = some (.int .i64 j8) := by rw [hc _ _ (by simp; try omega)]; go_simp
  have s8 : w1.cell? ⟨w.heap.size + 1, 8, none⟩ = some (.int .i64 j9) := by rw [hc _ _ (by simp; try omega)]; go_simp
  clear hc hf hi hi' hx hy
  go_wp2
  go_ret
  exact ⟨rfl, hb0.trans (B1.mono hb0.size)⟩
set_option maxRecDepth 100000 in
theorem samePod_6 (i1 i2 : Int) (b3 : Bool) (i4 : Int) (zs : List Int) (a : Option Addr) (l cp : Nat) (i6 i7 i8 i9 : Int) (j1 j2 : Int) (c3 : Bool) (j4 : Int) (zs' : List Int) (a' : Option Addr) (l' cp' : Nat) (j6 j7 j8 j9 : Int) (w : World) (hx : zs.length * 8 ≤ 140737488351232) (hy : zs'.length * 8 ≤ 140737488351232) (h : IntsAt w (.slice a l cp) zs) (h' : IntsAt w (.slice a' l' cp') zs') (h0 : (i1 == j1) = true) (h1 : (i2 == j2) = true) (h2 : (b3 == c3) = true) (h3 : (i4 == j4) = true) (h4 : (zs == zs') = true) (h5 : (i6 == j6) = true) (h6 : (i7 == j7) = false) :
    Calls Tryd.prog 67 #[.agg #[.int .i64 i1, .int .i64 i2, .bool b3, .int .i64 i4, .slice a l cp, .int .i64 i6, .int .i64 i7, .int .i64 i8, .int .i64 i9], .agg #[.int .i64 j1, .int .i64 j2, .bool c3, .int .i64 j4, .slice a' l' cp', .int .i64 j6, .int .i64 j7, .int .i64 j8, .int .i64 j9]] w fun e w' => e = .returned (.bool false) ∧ Below w.heap.size w w' := by
  have HS := Lib.hid (same01_any (.slice a l cp) (.slice a' l' cp') zs zs')
  have hb0 : Below w.heap.size w ((w.alloc (.cells #[.int .i64 i1, .int .i64 i2, .bool b3, .int .i64 i4, .slice a l cp, .int .i64 i6, .int .i64 i7, .int .i64 i8, .int .i64 i9] 65)).alloc (.cells #[.int .i64 j1, .int .i64 j2, .bool c3, .int .i64 j4, .slice a' l' cp', .int .i64 j6, .int .i64 j7, .int .i64 j8, .int .i64 j9] 65)) := (by repeat (first | exact Below.refl _ _ | refine Below.drew ?_ | refine Below.alloc ?_ (by first | omega | (simp; done) | (simp; omega)) _))
  have hi := h.below hb0
  have hi' := h'.below hb0
  clear h h'
  rw [h4] at HS
  clear h4
  go_enter Tryd.func67, Tryd.ntmps67
  go_wp2_with fail
  refine (HS.out _ hx hy hi hi').mono ?_
  rintro e w1 ⟨rfl, B1⟩
  obtain ⟨hc, hf⟩ := bcell B1
  have r5 : w1.cell? ⟨w.heap.size, 5, none⟩ = some (.int .i64 i6) := by rw [hc _ _ (by simp; try omega)]; go_simp
  have r6 : w1.cell? ⟨w.heap.size, 6, none⟩ = some (.int .i64 i7) := by rw [hc _ _ (by simp; try omega)]; go_simp
  have r7 : w1.cell? ⟨w.heap.size, 7, none⟩ = some (.int .i64 i8) := by rw [hc _ _ (by simp; try omega)]; go_simp
  have r8 : w1.cell? ⟨w.heap.size, 8, none⟩ = some (.int .i64 i9) := by rw [hc _ _ (by simp; try omega)]; go_simp
  have s5 : w1.cell? ⟨w.heap.size + 1, 5, none⟩ = some (.int .i64 j6) := by rw [hc _ _ (by simp; try omega)]; go_simp
  have s6 : w1.cell? ⟨w.heap.size + 1, 6, none⟩ = some (.int .i64 j7) := by rw [hc _ _ (by simp; try omega)]; go_simp
  have s7 : w1.cell? ⟨w.heap.size + 1, 7, none⟩ = some (.int .i64 j8) := by rw [hc _ _ (by simp; try omega)]; go_simp
  have s8 : w1.cell? ⟨w.heap.size + 1, 8, none⟩ = some (.int .i64 j9) := by rw [hc _ _ (by simp; try omega)]; go_simp
  clear hc hf hi hi' hx hy
  go_wp2
  go_ret
  exact ⟨rfl, hb0.trans (B1.mono hb0.size)⟩
set_option maxRecDepth 100000 in
theorem samePod_7 (i1 i2 : Int) (b3 : Bool) (i4 : Int) (zs : List Int) (a : Option Addr) (l cp : Nat) (i6 i7 i8 i9 : Int) (j1 j2 : Int) (c3 : Bool) (j4 : Int) (zs' : List Int) (a' : Option Addr) (l' cp' : Nat) (j6 j7 j8 j9 : Int) (w : World) (hx : zs.length * 8 ≤ 140737488351232) (hy : zs'.length * 8 ≤ 140737488351232) (h : IntsAt w (.slice a l cp) zs) (h' : IntsAt w (.slice a' l' cp') zs') (h0 : (i1 == j1) = true) (h1 : (i2 == j2) = true) (h2 : (b3 == c3) = true) (h3 : (i4 == j4) = true) (h4 : (zs == zs') = true) (h5 : (i6 == j6) = true) (h6 : (i7 == j7) = true) (h7 : (i8 == j8) = false) :
    Calls Tryd.prog 67 #[.agg #[.int .i64 i1, .int .i64 i2, .bool b3, .int .i64 i4, .slice a l cp, .int .i64 i6, .int .i64 i7, .int .i64 i8, .int .i64 i9], .agg #[.int .i64 j1, .int .i64 j2, .bool c3, .int .i64 j4, .slice a' l' cp', .int .i64 j6, .int .i64 j7, .int .i64 j8, .int .i64 j9]] w fun e w' => e = .returned (.bool false) ∧ Below w.heap.size w w' := by
  have HS := Lib.hid (same01_any (.slice a l cp) (.slice a' l' cp') zs zs')
  have hb0 : Below w.heap.size w ((w.alloc (.cells #[.int .i64 i1, .int .i64 i2, .bool b3, .int .i64 i4, .slice a l cp, .int .i64 i6, .int .i64 i7, .int .i64 i8, .int .i64 i9] 65)).alloc (.cells #[.int .i64 j1, .int .i64 j2, .bool c3, .int .i64 j4, .slice a' l' cp', .int .i64 j6, .int .i64 j7, .int .i64 j8, .int .i64 j9] 65)) := (by repeat (first | exact Below.refl _ _ | refine Below.drew ?_ | refine Below.alloc ?_ (by first | omega | (simp; done) | (simp; omega)) _))
  have hi := h.below hb0
  have hi' := h'.below hb0
  clear h h'
  rw [h4] at HS
  clear h4
  go_enter Tryd.func67, Tryd.ntmps67
  go_wp2_with fail
  refine (HS.out _ hx hy hi hi').mono ?_
  rintro e w1 ⟨rfl, B1⟩
  obtain ⟨hc, hf⟩ := bcell B1
  have r5 : w1.cell? ⟨w.heap.size, 5, none⟩ = some (.int .i64 i6) := by rw [hc _ _ (by simp; try omega)]; go_simp
  have r6 : w1.cell? ⟨w.heap.size, 6, none⟩ = some (.int .i64 i7) := by rw [hc _ _ (by simp; try omega)]; go_simp
  have r7 : w1.cell? ⟨w.heap.size, 7, none⟩ = some (.int .i64 i8) := by rw [hc _ _ (by simp; try omega)]; go_simp
  have r8 : w1.cell? ⟨w.heap.size, 8, none⟩ = some (.int .i64 i9) := by rw [hc _ _ (by simp; try omega)]; go_simp
  have s5 : w1.cell? ⟨w.heap.size + 1, 5, none⟩ = some (.int .i64 j6) := by rw [hc _ _ (by simp; try omega)]; go_simp
  have s6 : w1.cell? ⟨w.heap.size + 1, 6, none⟩ = some (.int .i64 j7) := by rw [hc _ _ (by simp; try omega)]; go_simp
  have s7 : w1.cell? ⟨w.heap.size + 1, 7, none⟩ = some (.int .i64 j8) := by rw [hc _ _ (by simp; try omega)]; go_simp
  have s8 : w1.cell? ⟨w.heap.size + 1, 8, none⟩ = some (.int .i64 j9) := by rw [hc _ _ (by simp; try omega)]; go_simp
  clear hc hf hi hi' hx hy
  go_wp2
  go_ret
  exact ⟨rfl, hb0.trans (B1.mono hb0.size)⟩
set_option maxRecDepth 100000 in
theorem samePod_8 (i1 i2 : Int) (b3 : Bool) (i4 : Int) (zs : List Int) (a : Option Addr) (l cp : Nat) (i6 i7 i8 i9 : Int) (j1 j2 : Int) (c3 : Bool) (j4 : Int) (zs' : List Int) (a' : Option Addr) (l' cp' : Nat) (j6 j7 j8 j9 : Int) (w : World) (hx : zs.length * 8 ≤ 140737488351232) (hy : zs'.length * 8 ≤ 140737488351232) (h : IntsAt w (.slice a l cp) zs) (h' : IntsAt w (.slice a' l' cp') zs') (h0 : (i1 == j1) = true) (h1 : (i2 == j2) = true) (h2 : (b3 == c3) = true) (h3 : (i4 == j4) = true) (h4 : (zs == zs') = true) (h5 : (i6 == j6) = true) (h6 : (i7 == j7) = true) (h7 : (i8 == j8) = true) (h8 : (i9 == j9) = false) :
    Calls Tryd.prog 67 #[.agg #[.int .i64 i1, .int .i64 i2, .bool b3, .int .i64 i4, .slice a l cp, .int .i64 i6, .int .i64 i7, .int .i64 i8, .int .i64 i9], .agg #[.int .i64 j1, .int .i64 j2, .bool c3, .int .i64 j4, .slice a' l' cp', .int .i64 j6, .int .i64 j7, .int .i64 j8, .int .i64 j9]] w fun e w' => e = .returned (.bool false) ∧ Below w.heap.size w w' := by
  have HS := Lib.hid (same01_any (.slice a l cp) (.slice a' l' cp') zs zs')
  have hb0 : Below w.heap.size w ((w.alloc (.cells #[.int .i64 i1, .int .i64 i2, .bool b3, .int .i64 i4, .slice a l cp, .int .i64 i6, .int .i64 i7, .int .i64 i8, .int .i64 i9] 65)).alloc (.cells #[.int .i64 j1, .int .i64 j2, .bool c3, .int .i64 j4, .slice a' l' cp', .int .i64 j6, .int .i64 j7, .int .i64 j8, .int .i64 j9] 65)) := (by repeat (first | exact Below.refl _ _ | refine Below.drew ?_ | refine Below.alloc ?_ (by first | omega | (simp; done) | (simp; omega)) _))
  have hi := h.below hb0
  have hi' := h'.below hb0
  clear h h'
  rw [h4] at HS
  clear h4
  go_enter Tryd.func67, Tryd.ntmps67
  go_wp2_with fail
  refine (HS.out _ hx hy hi hi').mono ?_
  rintro e w1 ⟨rfl, B1⟩
  obtain ⟨hc, hf⟩ := bcell B1
  have r5 : w1.cell? ⟨w.heap.size, 5, none⟩ = some (.int .i64 i6) := by rw [hc _ _ (by simp; try omega)]; go_simp
  have r6 : w1.cell? ⟨w.heap.size, 6, none⟩ = some (.int .i64 i7) := by rw [hc _ _ (by simp; try omega)]; go_simp
  have r7 : w1.cell? ⟨w.heap.size, 7, none⟩ = some (.int .i64 i8) := by rw [hc _ _ (by simp; try omega)]; go_simp
  have r8 : w1.cell? ⟨w.heap.size, 8, none⟩ = some (.int .i64 i9) := by rw [hc _ _ (by simp; try omega)]; go_simp
  have s5 : w1.cell? ⟨w.heap.size + 1, 5, none⟩ = some (.int .i64 j6) := by rw [hc _ _ (by simp; try omega)]; go_simp
  have s6 : w1.cell? ⟨w.heap.size + 1, 6, none⟩ = some (.int .i64 j7) := by rw [hc _ _ (by simp; try omega)]; go_simp
  have s7 : w1.cell? ⟨w.heap.size + 1, 7, none⟩ = some (.int .i64 j8) := by rw [hc _ _ (by simp; try omega)]; go_simp
  have s8 : w1.cell? ⟨w.heap.size + 1, 8, none⟩ = some (.int .i64 j9) := by rw [hc _ _ (by simp; try omega)]; go_simp
  clear hc hf hi hi' hx hy
  go_wp2
  go_ret
  exact ⟨rfl, hb0.trans (B1.mono hb0.size)⟩
set_option maxRecDepth 100000 in
theorem samePod_9 (i1 i2 : Int) (b3 : Bool) (i4 : Int) (zs : List Int) (a : Option Addr) (l cp : Nat) (i6 i7 i8 i9 : Int) (j1 j2 : Int) (c3 : Bool) (j4 : Int) (zs' : List Int) (a' : Option Addr) (l' cp' : Nat) (j6 j7 j8 j9 : Int) (w : World) (hx : zs.length * 8 ≤ 140737488351232) (hy : zs'.length * 8 ≤ 140737488351232) (h : IntsAt w (.slice a l cp) zs) (h' : IntsAt w (.slice a' l' cp') zs') (h0 : (i1 == j1) = true) (h1 : (i2 == j2) = true) (h2 : (b3 == c3) = true) (h3 : (i4 == j4) = true) (h4 : (zs == zs') = true) (h5 : (i6 == j6) = true) (h6 : (i7 == j7) = true) (h7 : (i8 == j8) = true) (h8 : (i9 == j9) = true) :
    Calls Tryd.prog 67 #[.agg #[.int .i64 i1, .int .i64 i2, .bool b3, .int .i64 i4, .slice a l cp, .int .i64 i6, .int .i64 i7, .int .i64 i8, .int .i64 i9], .agg #[.int .i64 j1, .int .i64 j2, .bool c3, .int .i64 j4, .slice a' l' cp', .int .i64 j6, .int .i64 j7, .int .i64 j8, .int .i64 j9]] w fun e w' => e = .returned (.bool true) ∧ Below w.heap.size w w' := by
  have HS := Lib.hid (same01_any (.slice a l cp) (.slice a' l' cp') zs zs')
  have hb0 : Below w.heap.size w ((w.alloc (.cells #[.int .i64 i1, .int .i64 i2, .bool b3, .int .i64 i4, .slice a l cp, .int .i64 i6, .int .i64 i7, .int .i64 i8, .int .i64 i9] 65)).alloc (.cells #[.int .i64 j1, .int .i64 j2, .bool c3, .int .i64 j4, .slice a' l' cp', .int .i64 j6, .int .i64 j7, .int .i64 j8, .int .i64 j9] 65)) := (by repeat (first | exact Below.refl _ _ | refine Below.drew ?_ | refine Below.alloc ?_ (by first | omega | (simp; done) | (simp; omega)) _))
  have hi := h.below hb0
  have hi' := h'.below hb0
  clear h h'
  rw [h4] at HS
  clear h4
  go_enter Tryd.func67, Tryd.ntmps67
  go_wp2_with fail
  refine (HS.out _ hx hy hi hi').mono ?_
  rintro e w1 ⟨rfl, B1⟩
  obtain ⟨hc, hf⟩ := bcell B1
  have r5 : w1.cell? ⟨w.heap.size, 5, none⟩ = some (.int .i64 i6) := by rw [hc _ _ (by simp; try omega)]; go_simp
  have r6 : w1.cell? ⟨w.heap.size, 6, none⟩ = some (.int .i64 i7) := by rw [hc _ _ (by simp; try omega)]; go_simp
  have r7 : w1.cell? ⟨w.heap.size, 7, none⟩ = some (.int .i64 i8) := by rw [hc _ _ (by simp; try omega)]; go_simp
  have r8 : w1.cell? ⟨w.heap.size, 8, none⟩ = some (.int .i64 i9) := by rw [hc _ _ (by simp; try omega)]; go_simp
  have s5 : w1.cell? ⟨w.heap.size + 1, 5, none⟩ = some (.int .i64 j6) := by rw [hc _ _ (by simp; try omega)]; go_simp
  have s6 : w1.cell? ⟨w.heap.size + 1, 6, none⟩ = some (.int .i64 j7) := by rw [hc _ _ (by simp; try omega)]; go_simp
  have s7 : w1.cell? ⟨w.heap.size + 1, 7, none⟩ = some (.int .i64 j8) := by rw [hc _ _ (by simp; try omega)]; go_simp
  have s8 : w1.cell? ⟨w.heap.size + 1, 8, none⟩ = some (.int .i64 j9) := by rw [hc _ _ (by simp; try omega)]; go_simp
  clear hc hf hi hi' hx hy
  go_wp2
  go_ret
  exact ⟨rfl, hb0.trans (B1.mono hb0.size)⟩
/-- hammockref06.SamePod compares all fields. -/
theorem samePod_any (p q : Pod) (v v' : Value) (w : World) (hx : p.req.length * 8 ≤ 140737488351232) (hy : q.req.length * 8 ≤ 140737488351232) (h : IntsAt w v p.req) (h' : IntsAt w v' q.req) :
    Calls Tryd.prog 67 #[podV p v, podV q v'] w fun e w' => e = .returned (.bool (decide (p = q))) ∧ Below w.heap.size w w' := by
  rw [pod_eq]
  obtain ⟨i1, i2, b3, i4, zs, i6, i7, i8, i9⟩ := p
  obtain ⟨j1, j2, c3, j4, zs', j6, j7, j8, j9⟩ := q
  obtain ⟨a, cp, rfl, -⟩ := id h
  obtain ⟨a', cp', rfl, -⟩ := id h'
  simp only at h h' hx hy ⊢
  cases h0 : i1 == j1
  · simp only [Bool.true_and, Bool.false_and]
    exact samePod_0 i1 i2 b3 i4 zs a _ cp i6 i7 i8 i9 j1 j2 c3 j4 zs' a' _ cp' j6 j7 j8 j9 w  h0
  cases h1 : i2 == j2
  · simp only [Bool.true_and, Bool.false_and]
    exact samePod_1 i1 i2 b3 i4 zs a _ cp i6 i7 i8 i9 j1 j2 c3 j4 zs' a' _ cp' j6 j7 j8 j9 w h0 h1
  cases h2 : b3 == c3
  · simp only [Bool.true_and, Bool.false_and]
    exact samePod_2 i1 i2 b3 i4 zs a _ cp i6 i7 i8 i9 j1 j2 c3 j4 zs' a' _ cp' j6 j7 j8 j9 w h0 h1 h2
  cases h3 : i4 == j4
  · simp only [Bool.true_and, Bool.false_and]
    exact samePod_3 i1 i2 b3 i4 zs a _ cp i6 i7 i8 i9 j1 j2 c3 j4 zs' a' _ cp' j6 j7 j8 j9 w h0 h1 h2 h3
  cases h4 : zs == zs'
  · simp only [Bool.true_and, Bool.false_and]
    exact samePod_4 i1 i2 b3 i4 zs a _ cp i6 i7 i8 i9 j1 j2 c3 j4 zs' a' _ cp' j6 j7 j8 j9 w hx hy h h' h0 h1 h2 h3 h4
  cases h5 : i6 == j6
  · simp only [Bool.true_and, Bool.false_and]
    exact samePod_5 i1 i2 b3 i4 zs a _ cp i6 i7 i8 i9 j1 j2 c3 j4 zs' a' _ cp' j6 j7 j8 j9 w hx hy h h' h0 h1 h2 h3 h4 h5
  cases h6 : i7 == j7
  · simp only [Bool.true_and, Bool.false_and]
    exact samePod_6 i1 i2 b3 i4 zs a _ cp i6 i7 i8 i9 j1 j2 c3 j4 zs' a' _ cp' j6 j7 j8 j9 w hx hy h h' h0 h1 h2 h3 h4 h5 h6
  cases h7 : i8 == j8
  · simp only [Bool.true_and, Bool.false_and]
    exact samePod_7 i1 i2 b3 i4 zs a _ cp i6 i7 i8 i9 j1 j2 c3 j4 zs' a' _ cp' j6 j7 j8 j9 w hx hy h h' h0 h1 h2 h3 h4 h5 h6 h7
  cases h8 : i9 == j9
  · simp only [Bool.true_and, Bool.false_and]
    exact samePod_8 i1 i2 b3 i4 zs a _ cp i6 i7 i8 i9 j1 j2 c3 j4 zs' a' _ cp' j6 j7 j8 j9 w hx hy h h' h0 h1 h2 h3 h4 h5 h6 h7 h8
  exact samePod_9 i1 i2 b3 i4 zs a _ cp i6 i7 i8 i9 j1 j2 c3 j4 zs' a' _ cp' j6 j7 j8 j9 w hx hy h h' h0 h1 h2 h3 h4 h5 h6 h7 h8
end Go.Proofs.YtcegipkhmibdeaaDoor
/- Slices of pods; hammockref07.Find. -/
namespace Go.Proofs.YtcegipkhmibdeaaDoor
set_option linter.all false
open Go.RowKit

/-- A pod's nine cells. -/
def PodCells (w : World) (b o : Nat) (p : Pod) (rv : Value) : Prop :=
  w.cell? ⟨b, o, none⟩ = some (.int .i64 p.id) ∧ w.cell? ⟨b, o + 1, none⟩ = some (.int .i64 p.prio) ∧ w.cell? ⟨b, o + 2, none⟩ = some (.bool p.pre) ∧ w.cell? ⟨b, o + 3, none⟩ = some (.int .i64 p.grace) ∧ w.cell? ⟨b, o + 4, none⟩ = some rv ∧
  w.cell? ⟨b, o + 5, none⟩ = some (.int .i64 p.arr) ∧ w.cell? ⟨b, o + 6, none⟩ = some (.int .i64 p.ph) ∧ w.cell? ⟨b, o + 7, none⟩ = some (.int .i64 p.node) ∧ w.cell? ⟨b, o + 8, none⟩ = some (.int .i64 p.dead)
theorem PodCells.below {w w' : World} {n b o : Nat} {p : Pod} {rv : Value} (h : PodCells w b o p rv) (hb : Below n w w') (hl : b < n) : PodCells w' b o p rv :=
  ⟨keepc hb hl h.1, keepc hb hl h.2.1, keepc hb hl h.2.2.1, keepc hb hl h.2.2.2.1, keepc hb hl h.2.2.2.2.1, keepc hb hl h.2.2.2.2.2.1, keepc hb hl h.2.2.2.2.2.2.1, keepc hb hl h.2.2.2.2.2.2.2.1, keepc hb hl h.2.2.2.2.2.2.2.2⟩
def podAt (ps : List Pod) (j : Nat) : Pod := ps.getD j ⟨0, 0, false, 0, [], 0, 0, 0, 0⟩
theorem podAt_get {ps : List Pod} {j : Nat} (h : j < ps.length) : podAt ps j = ps[j] := by unfold podAt; rw [List.getD_eq_getElem?_getD, List.getElem?_eq_getElem h]; rfl
/-- A slice of pods. -/
def PodsAt (w : World) (v : Value) (ps : List Pod) : Prop :=
  ∃ a cap, v = .slice a ps.length cap ∧ (ps = [] ∨ ∃ b off, a = some ⟨b, off, none⟩ ∧ b < w.heap.size ∧ ∀ j, j < ps.length → ∃ rv, PodCells w b (off + j * 9) (podAt ps j) rv ∧ IntsAt w rv (podAt ps j).req)
theorem PodsAt.below {w w' : World} {v : Value} {ps : List Pod} (h : PodsAt w v ps) (hb : Below w.heap.size w w') : PodsAt w' v ps := by
  obtain ⟨a, cap, rfl, h | ⟨b, off, rfl, hlt, hc⟩⟩ := h
  · exact ⟨a, cap, rfl, .inl h⟩
  · refine ⟨_, cap, rfl, .inr ⟨b, off, rfl, Nat.lt_of_lt_of_le hlt hb.size, fun j hj => ?_⟩⟩
    obtain ⟨rv, h1, h2⟩ := hc j hj
    exact ⟨rv, h1.below hb hlt, h2.below hb⟩
/-- The index of the first pod with an id, counted from k on; -1 if there is none. -/
def findI : List Pod → Nat → Int → Int
  | [], _, _ => -1
  | p :: r, k, id => if p.id = id then (k : Int) else findI r (k + 1) id
theorem findI_step {ps : List Pod} {k : Nat} {id : Int} (h : k < ps.length) : findI (ps.drop k) k id = if (podAt ps k).id = id then (k : Int) else findI (ps.drop (k + 1)) (k + 1) id := by
  rw [List.drop_eq_getElem_cons h, findI, podAt_get h]
set_option maxRecDepth 100000 in
theorem find_some (b off cap : Nat) (ps : List Pod) (id : Int) (w : World) (hx : ps.length * 9 * 8 ≤ 140737488351232)
    (hc : ∀ j, j < ps.length → ∃ rv, PodCells w b (off + j * 9) (podAt ps j) rv ∧ IntsAt w rv (podAt ps j).req) :
    Calls Tryd.prog 66 #[.slice (some ⟨b, off, none⟩) ps.length cap, .int .i64 id] w fun e w' => e = .returned (.int .i64 (findI ps 0 id)) ∧ w = w' := by
  obtain ⟨l, hl⟩ : ∃ n, n = ps.length := ⟨_, rfl⟩
  rw [← hl] at hx hc ⊢
  have HL := Lib.hid hl; clear hl
  have HC := Lib.hid hc; clear hc
  go_enter Tryd.func66, Tryd.ntmps66
  go_wp2
  go_loop [5] (fun i => ∃ k : Nat, k ≤ l ∧ i = .int .i64 k ∧ Hid (findI ps 0 id = findI (ps.drop k) k id)) (fun i => l - (intOf i).toNat)
  case atStart => exact ⟨0, Nat.zero_le _, rfl, rfl⟩
  case round =>
    obtain ⟨k, hk, rfl, hrun⟩ := hrel
    by_cases hlt : k < l
    · obtain ⟨rv, hcc, -⟩ := HC.out k hlt
      have h1 := hcc.1
      have hs := findI_step (ps := ps) (k := k) (id := id) (by rw [← HL.out]; exact hlt)
      generalize (podAt ps k).id = x at *
      clear hcc
      have hki : (0 : Int) ≤ (k : Int) := by omega
      have hkl : (k : Int) < (l : Int) := by omega
      by_cases hx : x = id
      · have hfin : Hid (findI ps 0 id = (k : Int)) := by rw [hrun.out, hs, if_pos hx]; rfl
        have hxb : (x == id) = true := by simp [hx]
        clear hs hrun hx
        go_wp2
        go_ret
        exact ⟨by rw [hfin.out]; rfl, rfl⟩
      · have hfin : Hid (findI ps 0 id = findI (ps.drop (k + 1)) (k + 1) id) := by rw [hrun.out, hs, if_neg hx]; rfl
        have hxb : (x == id) = false := by simp [hx]
        clear hs hrun hx
        go_wp2
        go_round
        case rel => exact ⟨k + 1, by omega, by go_num, hfin⟩
        case measure => simp [intOf]; omega
    · have hfin : Hid (findI ps 0 id = -1) := by rw [hrun.out, List.drop_eq_nil_of_le (by rw [← HL.out]; omega)]; rfl
      clear hrun
      go_wp2
      go_ret
      exact ⟨by rw [hfin.out]; rfl, rfl⟩
theorem find_none (a : Option Addr) (cap : Nat) (id : Int) (w : World) : Calls Tryd.prog 66 #[.slice a 0 cap, .int .i64 id] w fun e w' => e = .returned (.int .i64 (-1)) ∧ w = w' := by
  go_enter Tryd.func66, Tryd.ntmps66
  go_wp2
  refine wp_loop_rounds 1 ?_
  rw [rounds_succ]
  go_wp2
  go_ret
  exact ⟨rfl, rfl⟩
theorem find_any (v : Value) (ps : List Pod) (id : Int) (w : World) (hx : ps.length * 9 * 8 ≤ 140737488351232) (h : PodsAt w v ps) :
    Calls Tryd.prog 66 #[v, .int .i64 id] w fun e w' => e = .returned (.int .i64 (findI ps 0 id)) ∧ w = w' := by
  obtain ⟨a, cap, rfl, rfl | ⟨b, off, rfl, hlt, hc⟩⟩ := h
  · exact find_none a cap id w
  · exact find_some b off cap ps id w hx hc
end Go.Proofs.YtcegipkhmibdeaaDoor
/- hammockref06.Same and hammockref06.Few. -/
namespace Go.Proofs.YtcegipkhmibdeaaDoor
set_option linter.all false
open Go.RowKit

theorem pods_step {ps qs : List Pod} {k : Nat} (h1 : k < ps.length) (h2 : k < qs.length) : (decide (ps.drop k = qs.drop k)) = (decide (podAt ps k = podAt qs k) && decide (ps.drop (k + 1) = qs.drop (k + 1))) := by
  rw [List.drop_eq_getElem_cons h1, List.drop_eq_getElem_cons h2, podAt_get h1, podAt_get h2, Bool.eq_iff_iff]
  simp only [decide_eq_true_eq, Bool.and_eq_true, List.cons.injEq]
theorem PodsAt.len {w : World} {v : Value} {ps : List Pod} (h : PodsAt w v ps) : ∃ a cap, v = .slice a ps.length cap := by
  obtain ⟨a, cap, rfl, -⟩ := h; exact ⟨_, _, rfl⟩
/-- Short requests, and not too many pods. -/
def smallPods (ps : List Pod) : Prop := ps.length * 9 * 8 ≤ 140737488351232 ∧ ∀ j, j < ps.length → (podAt ps j).req.length * 8 ≤ 140737488351232
set_option maxHeartbeats 4000000 in
set_option maxRecDepth 100000 in
theorem same06_some (b1 off1 cap1 b2 off2 cap2 : Nat) (ps qs : List Pod) (w : World) (hx : smallPods ps) (hy : smallPods qs) (hll : ps.length = qs.length) (hb1 : b1 < w.heap.size) (hb2 : b2 < w.heap.size)
    (hc1 : ∀ j, j < ps.length → ∃ rv, PodCells w b1 (off1 + j * 9) (podAt ps j) rv ∧ IntsAt w rv (podAt ps j).req) (hc2 : ∀ j, j < qs.length → ∃ rv, PodCells w b2 (off2 + j * 9) (podAt qs j) rv ∧ IntsAt w rv (podAt qs j).req) :
    Calls Tryd.prog 63 #[.slice (some ⟨b1, off1, none⟩) ps.length cap1, .slice (some ⟨b2, off2, none⟩) qs.length cap2] w fun e w' => e = .returned (.bool (decide (ps = qs))) ∧ Below w.heap.size w w' := by
  have HX := Lib.hid hx; clear hx
  have HY := Lib.hid hy; clear hy
  obtain ⟨l, hl⟩ : ∃ n, n = ps.length := ⟨_, rfl⟩
  rw [← hll, ← hl]
  have hl2 : l = qs.length := hl.trans hll
  clear hll
  have hmax : l * 9 * 8 ≤ 140737488351232 := by rw [hl]; exact HX.out.1
  have HL1 := Lib.hid hl; clear hl
  have HL2 := Lib.hid hl2; clear hl2
  have HC1 := Lib.hid hc1; clear hc1
  have HC2 := Lib.hid hc2; clear hc2
  go_enter Tryd.func63, Tryd.ntmps63
  go_wp2
  go_loopw [5] (fun i wr => ∃ k : Nat, k ≤ l ∧ i = .int .i64 k ∧ Hid (decide (ps = qs) = decide (ps.drop k = qs.drop k)) ∧ Aside (Below w.heap.size w wr)) (fun i _ => l - (intOf i).toNat)
  case atStart => exact ⟨0, Nat.zero_le _, rfl, rfl, Below.refl _ _⟩
  case round =>
    obtain ⟨k, hk, rfl, hrun, hbw⟩ := hrel
    by_cases hlt : k < l
    · obtain ⟨rv, hcc, hri⟩ := HC1.out k (by rw [← HL1.out]; exact hlt)
      obtain ⟨rv', hcc', hri'⟩ := HC2.out k (by rw [← HL2.out]; exact hlt)
      have hs := pods_step (ps := ps) (qs := qs) (k := k) (by rw [← HL1.out]; exact hlt) (by rw [← HL2.out]; exact hlt)
      have hxl := HX.out.2 k (by rw [← HL1.out]; exact hlt)
      have hyl := HY.out.2 k (by rw [← HL2.out]; exact hlt)
      generalize podAt ps k = x at *
      generalize podAt qs k = y at *
      have hcr := hcc.below hbw.out hb1
      have hcr' := hcc'.below hbw.out hb2
      have hr := hri.below hbw.out
      have hr' := hri'.below hbw.out
      clear hcc hcc' hri hri'
      obtain ⟨a, c1, rfl, -⟩ := id hr
      obtain ⟨a', c2, rfl, -⟩ := id hr'
      have hl1 : b1 < wr.heap.size := Nat.lt_of_lt_of_le hb1 hbw.out.size
      have hl2 : b2 < wr.heap.size := Nat.lt_of_lt_of_le hb2 hbw.out.size
      have HS := Lib.hid (samePod_any x y (.slice a x.req.length c1) (.slice a' y.req.length c2))
      generalize x.req.length = n1 at *
      generalize y.req.length = n2 at *
      have HK : Hid (∀ w' : World, Below wr.heap.size wr w' → (w'.cell? ⟨b1, off1 + k * 9, none⟩ = some (.int .i64 x.id) ∧ w'.cell? ⟨b1, off1 + k * 9 + 1, none⟩ = some (.int .i64 x.prio) ∧ w'.cell? ⟨b1, off1 + k * 9 + 2, none⟩ = some (.bool x.pre) ∧ w'.cell? ⟨b1, off1 + k * 9 + 3, none⟩ = some (.int .i64 x.grace) ∧ w'.cell? ⟨b1, off1 + k * 9 + 4, none⟩ = some (.slice a n1 c1) ∧ w'.cell? ⟨b1, off1 + k * 9 + 5, none⟩ = some (.int .i64 x.arr) ∧ w'.cell? ⟨b1, off1 + k * 9 + 6, none⟩ = some (.int .i64 x.ph) ∧ w'.cell? ⟨b1, off1 + k * 9 + 7, none⟩ = some (.int .i64 x.node) ∧ w'.cell? ⟨b1, off1 + k * 9 + 8, none⟩ = some (.int .i64 x.dead) ∧ w'.cell? ⟨b2, off2 + k * 9, none⟩ = some (.int .i64 y.id) ∧ w'.cell? ⟨b2, off2 + k * 9 + 1, none⟩ = some (.int .i64 y.prio) ∧ w'.cell? ⟨b2, off2 + k * 9 + 2, none⟩ = some (.bool y.pre) ∧ w'.cell? ⟨b2, off2 + k * 9 + 3, none⟩ = some (.int .i64 y.grace) ∧ w'.cell? ⟨b2, off2 + k * 9 + 4, none⟩ = some (.slice a' n2 c2) ∧ w'.cell? ⟨b2, off2 + k * 9 + 5, none⟩ = some (.int .i64 y.arr) ∧ w'.cell? ⟨b2, off2 + k * 9 + 6, none⟩ = some (.int .i64 y.ph) ∧ w'.cell? ⟨b2, off2 + k * 9 + 7, none⟩ = some (.int .i64 y.node) ∧ w'.cell? ⟨b2, off2 + k * 9 + 8, none⟩ = some (.int .i64 y.dead))) := fun w' h => by
        obtain ⟨p0, p1, p2, p3, p4, p5, p6, p7, p8⟩ := hcr.below h hl1
        obtain ⟨q0, q1, q2, q3, q4, q5, q6, q7, q8⟩ := hcr'.below h hl2
        exact ⟨p0, p1, p2, p3, p4, p5, p6, p7, p8, q0, q1, q2, q3, q4, q5, q6, q7, q8⟩
      obtain ⟨p0, p1, p2, p3, p4, p5, p6, p7, p8⟩ := hcr
      obtain ⟨q0, q1, q2, q3, q4, q5, q6, q7, q8⟩ := hcr'
      have hki : (0 : Int) ≤ (k : Int) := by omega
      have hkl : (k : Int) < (l : Int) := by omega
      have hv0 : Below wr.heap.size wr wr.drew := (Below.refl _ wr).drew
      cases hd : decide (x = y)
      all_goals
        rw [hd] at HS hs
        simp only [Bool.true_and, Bool.false_and] at hs
        have hfin := Lib.hid (hrun.out.trans hs)
        clear hs hrun hd
        go_wp2
        go_region_held3 (fun w' => w'.cell? ⟨b1, off1 + k * 9, none⟩ = some (.int .i64 x.id) ∧ w'.cell? ⟨b1, off1 + k * 9 + 1, none⟩ = some (.int .i64 x.prio) ∧ w'.cell? ⟨b1, off1 + k * 9 + 2, none⟩ = some (.bool x.pre) ∧ w'.cell? ⟨b1, off1 + k * 9 + 3, none⟩ = some (.int .i64 x.grace) ∧ w'.cell? ⟨b1, off1 + k * 9 + 4, none⟩ = some (.slice a n1 c1) ∧ w'.cell? ⟨b1, off1 + k * 9 + 5, none⟩ = some (.int .i64 x.arr) ∧ w'.cell? ⟨b1, off1 + k * 9 + 6, none⟩ = some (.int .i64 x.ph) ∧ w'.cell? ⟨b1, off1 + k * 9 + 7, none⟩ = some (.int .i64 x.node) ∧ w'.cell? ⟨b1, off1 + k * 9 + 8, none⟩ = some (.int .i64 x.dead) ∧ w'.cell? ⟨b2, off2 + k * 9, none⟩ = some (.int .i64 y.id) ∧ w'.cell? ⟨b2, off2 + k * 9 + 1, none⟩ = some (.int .i64 y.prio) ∧ w'.cell? ⟨b2, off2 + k * 9 + 2, none⟩ = some (.bool y.pre) ∧ w'.cell? ⟨b2, off2 + k * 9 + 3, none⟩ = some (.int .i64 y.grace) ∧ w'.cell? ⟨b2, off2 + k * 9 + 4, none⟩ = some (.slice a' n2 c2) ∧ w'.cell? ⟨b2, off2 + k * 9 + 5, none⟩ = some (.int .i64 y.arr) ∧ w'.cell? ⟨b2, off2 + k * 9 + 6, none⟩ = some (.int .i64 y.ph) ∧ w'.cell? ⟨b2, off2 + k * 9 + 7, none⟩ = some (.int .i64 y.node) ∧ w'.cell? ⟨b2, off2 + k * 9 + 8, none⟩ = some (.int .i64 y.dead))
          (first | exact HK.out _ hv1 | go_keep)
          (first | (go_at_call 67; ((with_reducible refine (HS.out _ hxl hyl (hr.below hv0) (hr'.below hv0)).mono ?_)); rintro e v1 ⟨rfl, hb⟩; have hv1 : Below wr.heap.size wr v1 := hv0.trans hb; clear hb))
        have hbe : Below w.heap.size w v1 := hbw.out.trans (hv1.mono hbw.out.size)
        clear p0 p1 p2 p3 p4 p5 p6 p7 p8 q0 q1 q2 q3 q4 q5 q6 q7 q8
        go_wp2
      · go_ret
        exact ⟨by rw [hfin.out]; rfl, hbe⟩
      · go_roundw
        case rel => exact ⟨k + 1, by omega, by go_num, hfin.out, hbe⟩
        case measure => simp [intOf]; omega
    · have hfin : Hid (decide (ps = qs) = true) := by rw [hrun.out, List.drop_eq_nil_of_le (by rw [← HL1.out]; omega), List.drop_eq_nil_of_le (by rw [← HL2.out]; omega)]; rfl
      clear hrun
      go_wp2
      go_ret
      exact ⟨by rw [hfin.out]; rfl, hbw.out⟩
set_option maxRecDepth 100000 in
theorem same06_ne (a1 a2 : Option Addr) (l1 l2 c1 c2 : Nat) (w : World) (h : ¬ l1 = l2) :
    Calls Tryd.prog 63 #[.slice a1 l1 c1, .slice a2 l2 c2] w fun e w' => e = .returned (.bool false) ∧ w = w' := by
  have h' : ((l1 : Int) == (l2 : Int)) = false := by simp; omega
  go_enter Tryd.func63, Tryd.ntmps63
  go_wp2
  go_ret
  exact ⟨rfl, rfl⟩
set_option maxRecDepth 100000 in
theorem same06_none (a1 a2 : Option Addr) (c1 c2 : Nat) (w : World) :
    Calls Tryd.prog 63 #[.slice a1 0 c1, .slice a2 0 c2] w fun e w' => e = .returned (.bool true) ∧ w = w' := by
  go_enter Tryd.func63, Tryd.ntmps63
  go_wp2
  refine wp_loop_rounds 1 ?_
  rw [rounds_succ]
  go_wp2
  go_ret
  exact ⟨rfl, rfl⟩
/-- hammockref06.Same compares lists of pods. -/
theorem same06_any (v1 v2 : Value) (ps qs : List Pod) (w : World) (hx : smallPods ps) (hy : smallPods qs) (h1 : PodsAt w v1 ps) (h2 : PodsAt w v2 qs) :
    Calls Tryd.prog 63 #[v1, v2] w fun e w' => e = .returned (.bool (decide (ps = qs))) ∧ Below w.heap.size w w' := by
  obtain ⟨a1, c1, rfl, h1⟩ := h1
  obtain ⟨a2, c2, rfl, h2⟩ := h2
  by_cases hll : ps.length = qs.length
  · rcases h1 with rfl | ⟨b1, off1, rfl, hb1, hc1⟩
    · obtain rfl : qs = [] := List.eq_nil_of_length_eq_zero hll.symm
      exact (same06_none a1 a2 c1 c2 w).mono fun e w' ⟨he, hw⟩ => ⟨he, hw ▸ Below.refl _ _⟩
    · rcases h2 with rfl | ⟨b2, off2, rfl, hb2, hc2⟩
      · obtain rfl : ps = [] := List.eq_nil_of_length_eq_zero hll
        exact (same06_none _ a2 c1 c2 w).mono fun e w' ⟨he, hw⟩ => ⟨he, hw ▸ Below.refl _ _⟩
      · exact same06_some b1 off1 c1 b2 off2 c2 ps qs w hx hy hll hb1 hb2 hc1 hc2
  · have hd : decide (ps = qs) = false := decide_eq_false (fun h => hll (by rw [h]))
    rw [hd]
    exact (same06_ne a1 a2 _ _ c1 c2 w hll).mono fun e w' ⟨he, hw⟩ => ⟨he, hw ▸ Below.refl _ _⟩
end Go.Proofs.YtcegipkhmibdeaaDoor
/- Rows of whole numbers that the call made: where they lie, what a loop that writes one of them leaves of the others; append onto a new slice. -/
namespace Go.Proofs.YtcegipkhmibdeaaDoor
set_option linter.all false
open Go.RowKit

/-- A statement goes on in a world that gets a name. -/
theorem wp_named {c : Code} {P : Program} {Q : Exit → Act → World → Prop} {a : Act} {X : World} (h : ∀ W, W = X → c.wp P Q a W) : c.wp P Q a X := h X rfl
theorem setCell_ne {w : World} {b o b' o' : Nat} {v : Value} (h : b ≠ b' ∨ o ≠ o') : (w.setCell ⟨b, o, none⟩ v).cell? ⟨b', o', none⟩ = w.cell? ⟨b', o', none⟩ := by
  refine World.cell?_setCell_other _ _ _ _ ?_
  intro e
  injection e with e1 e2
  rcases h with h | h
  · exact h e1
  · exact h e2
/-- Only block g (if n is not 0) differs. -/
structure Only (g n : Nat) (w w' : World) : Prop where
  cell : ∀ b o, (0 < n → b ≠ g) → w'.cell? ⟨b, o, none⟩ = w.cell? ⟨b, o, none⟩
  frozen : ∀ b o, (0 < n → b ≠ g) → w'.frozen? ⟨b, o, none⟩ = w.frozen? ⟨b, o, none⟩
  size : w'.heap.size = w.heap.size
theorem Only.refl (g n : Nat) (w : World) : Only g n w w := ⟨fun _ _ _ => rfl, fun _ _ _ => rfl, rfl⟩
theorem Only.drew {g n : Nat} {w w' : World} (h : Only g n w w') : Only g n w w'.drew := ⟨fun b o hb => by rw [World.cell?_drew]; exact h.cell b o hb, fun b o hb => by rw [World.frozen?_drew]; exact h.frozen b o hb, by simpa using h.size⟩
theorem Only.set {g n j : Nat} {w w' : World} {v : Value} (h : Only g n w w') (hn : 0 < n) : Only g n w (w'.setCell ⟨g, j, none⟩ v) :=
  ⟨fun b o hb => by
    rw [setCell_ne (.inl (Ne.symm (hb hn)))]
    exact h.cell b o hb, fun b o hb => by rw [World.frozen?_setCell]; exact h.frozen b o hb, by simpa using h.size⟩
/-- Numbers in a block of their own, from its first cell on. -/
structure RowAt (w : World) (g : Nat) (a : Option Addr) (zs : List Int) : Prop where
  addr : 0 < zs.length → a = some ⟨g, 0, none⟩
  lt : 0 < zs.length → g < w.heap.size
  cells : ∀ j, j < zs.length → w.cell? ⟨g, j, none⟩ = some (.int .i64 (zs.getD j 0))
  free : 0 < zs.length → ∀ j, j < zs.length → w.frozen? ⟨g, j, none⟩ = false
theorem RowAt.ints {w : World} {g : Nat} {a : Option Addr} {zs : List Int} (h : RowAt w g a zs) (cap : Nat) : IntsAt w (.slice a zs.length cap) zs := by
  refine ⟨a, cap, rfl, ?_⟩
  rcases Nat.eq_zero_or_pos zs.length with h0 | h0
  · exact .inl (List.eq_nil_of_length_eq_zero h0)
  · exact .inr ⟨g, 0, h.addr h0, h.lt h0, fun j hj => by rw [Nat.zero_add]; exact h.cells j hj⟩
theorem RowAt.only {w w' : World} {g g' n : Nat} {a : Option Addr} {zs : List Int} (h : RowAt w g a zs) (ho : Only g' n w w') (hne : 0 < zs.length → 0 < n → g ≠ g') : RowAt w' g a zs :=
  ⟨h.addr, fun h0 => by rw [ho.size]; exact h.lt h0, fun j hj => by rw [ho.cell g j (hne (by omega))]; exact h.cells j hj, fun h0 j hj => by rw [ho.frozen g j (hne (by omega))]; exact h.free h0 j hj⟩
theorem RowAt.below {w w' : World} {g m : Nat} {a : Option Addr} {zs : List Int} (h : RowAt w g a zs) (hb : Below m w w') (hm : w.heap.size ≤ m) : RowAt w' g a zs :=
  ⟨h.addr, fun h0 => by have := h.lt h0; have := hb.size; omega, fun j hj => by rw [hb.cell (p := ⟨g, j, none⟩) (by have := h.lt (by omega); show g < m; omega)]; exact h.cells j hj,
    fun h0 j hj => by rw [hb.frozen (p := ⟨g, j, none⟩) (by have := h.lt (by omega); show g < m; omega)]; exact h.free h0 j hj⟩
theorem RowAt.set {w : World} {g k : Nat} {a : Option Addr} {zs : List Int} (h : RowAt w g a zs) (hk : k < zs.length) (x : Int) : RowAt (w.setCell ⟨g, k, none⟩ (.int .i64 x)) g a (zs.set k x) := by
  refine ⟨fun h0 => h.addr (by simpa using h0), fun h0 => by simpa using h.lt (by simpa using h0), fun j hj => ?_, fun h0 j hj => by rw [World.frozen?_setCell]; exact h.free (by omega) j (by simpa using hj)⟩
  rw [List.length_set] at hj
  by_cases hjk : j = k
  · subst hjk
    rw [World.cell?_setCell_same' _ _ _ (by rw [h.cells j hj]; rfl)]
    simp [hj]
  · rw [setCell_ne (.inr (Ne.symm hjk))]
    rw [h.cells j hj]
    simp [List.getD_eq_getElem?_getD, List.getElem?_set, Ne.symm hjk]
theorem row_at {w : World} {base n : Nat} {E : TypeId} {v : Value} {zs : List Int} (h : w.ownsRow base E 1 v n (zs.map (Value.int .i64))) (hn : n = zs.length) : ∃ a cap g, v = .slice a zs.length cap ∧ (0 < zs.length → base ≤ g) ∧ RowAt w g a zs := by
  subst hn
  rcases h.2 with ⟨rfl, h0⟩ | ⟨g, cap, cur, rfl, hb, hg, hn, hc, hs, ht⟩
  · refine ⟨none, 0, 0, by rw [h0], fun h1 => by omega, ?_⟩
    exact ⟨fun h1 => by omega, fun h1 => by omega, fun j hj => by omega, fun h1 => by omega⟩
  · refine ⟨_, cap, g, rfl, fun _ => hb, fun _ => rfl, fun _ => (Array.getElem?_eq_some_iff.1 hg).1, fun j hj => ?_, fun _ j hj => ?_⟩
    · have h1 := h.cells (g := g) rfl j (.int .i64 (zs.getD j 0)) (by rw [List.getElem?_map, List.getElem?_eq_getElem hj, List.getD_eq_getElem?_getD, List.getElem?_eq_getElem hj]; rfl)
      rw [add_mk, Nat.zero_add] at h1
      exact h1
    · exact h.frozenAt j
/-- A slice that came in lies below what a loop writes. -/
theorem IntsAt.only {w w' : World} {B g n : Nat} {v : Value} {zs : List Int} (h : ∃ a cap, v = .slice a zs.length cap ∧ (zs = [] ∨ ∃ b off, a = some ⟨b, off, none⟩ ∧ b < B ∧ ∀ j, j < zs.length → w.cell? ⟨b, off + j, none⟩ = some (.int .i64 (zs.getD j 0))))
    (ho : Only g n w w') (hg : 0 < n → B ≤ g) : ∃ a cap, v = .slice a zs.length cap ∧ (zs = [] ∨ ∃ b off, a = some ⟨b, off, none⟩ ∧ b < B ∧ ∀ j, j < zs.length → w'.cell? ⟨b, off + j, none⟩ = some (.int .i64 (zs.getD j 0))) := by
  obtain ⟨a, cap, rfl, h | ⟨b, off, rfl, hlt, hc⟩⟩ := h
  · exact ⟨a, cap, rfl, .inl h⟩
  · exact ⟨_, cap, rfl, .inr ⟨b, off, rfl, hlt, fun j hj => by rw [ho.cell b _ (fun h0 => by have := hg h0; omega)]; exact hc j hj⟩⟩
theorem run_append_none {P : Program} {w : World} {base : Nat} {t ty e : TypeId} {i : TypeInfo} {size c : Nat} (ht : P.underlying t = some (.slice e)) (hi : P.info? e = some i)
    (v : Value) (n : Nat) (xs : List Value) (hown : w.ownsRow base e size v n xs) :
    (Builtin.append_ #[t, t] ty #[v, .slice none 0 c]).run P w = .ok v w := by
  rcases hown.2 with ⟨rfl, rfl⟩ | ⟨g, cap, cur, rfl, _, _, hnc, _⟩
  · simp [Builtin.append_, run_underlying ht, sizeOf, typeInfo, hi, Builtin.lenOf, Builtin.firstCells]
  · simp [Builtin.append_, run_underlying ht, sizeOf, typeInfo, hi, Builtin.lenOf, Builtin.firstCells, hnc, storeCells]
/-- append of numbers that lie anywhere, onto a slice of the call's own. -/
theorem wpList_append_ints {w : World} {ops : Array Oper} {rest : List Oper} {o : Oper} {a : Act} {Q : Exit → Act → World → Prop} (hgd : o.guard = none) (s x : Operand)
    (ho : o.op = .call { callee := .builtin .append, args := #[s, x], argTypes := #[39, 39] }) (base : Nat)
    (v : Value) (n : Nat) (xs : List Value) (hs : a.eval s = v) (hown : w.ownsRow base 2 1 v n xs) (xv : Value) (zs : List Int) (hx : a.eval x = xv) (hI : IntsAt w xv zs)
    (hb : (n + zs.length) * 8 ≤ 140737488351232) (hbase : base ≤ w.heap.size)
    (h : ∀ v' w', w'.ownsRow base 2 1 v' (n + zs.length) (xs ++ zs.map (Value.int .i64)) → w.grownBy w' v.ownBlock → wpList Tryd.prog ops Q rest (a.put o.dst v') w') : wpList Tryd.prog ops Q (o :: rest) a w := by
  obtain ⟨i0, hi, hz0, hz1, hz2⟩ := info_parts info64
  obtain ⟨ax, cap, rfl, hI⟩ := hI
  have hsome : ∀ ad, ax = some ad → (∀ j u, (zs.map (Value.int .i64))[j]? = some u → w.cell? (ad.add j) = some u) → wpList Tryd.prog ops Q (o :: rest) a w := by
    rintro ad rfl hc
    exact wpList_append_own_at w hgd s x 39 ho base 2 i0 (.int .i64 0) 1 8 Tryd.underlying39 hi hz0 hz1 hz2 rfl (by decide) v n xs hs hown ad zs.length cap (zs.map (Value.int .i64)) hx (by simp) hc
      (by intro u hu; obtain ⟨y, _, rfl⟩ := List.mem_map.1 hu; rfl) (by unfold maxLen; omega) (by omega) hbase (fun v' w' h1 h2 _ _ => h v' w' h1 h2)
  rcases hI with rfl | ⟨b, off, rfl, hlt, hc⟩
  · cases ax with
    | some ad => exact hsome ad rfl (fun j u hu => by simp at hu)
    | none =>
      refine wpList_plain hgd fun K hK => ?_
      have hrun := run_append_none (P := Tryd.prog) (w := w) (base := base) (t := 39) (ty := o.type) (c := cap) Tryd.underlying39 hi v n xs hown
      unfold Oper.wp
      simp [execOp, ho, resolve, invoke, builtin, hs, hx, hrun, Result.andThen]
      exact hK _ _ (h v w (by simpa using hown) ⟨rfl, rfl, rfl, Nat.le_refl _, fun _ _ _ => rfl⟩)
  · refine hsome _ rfl fun j u hu => ?_
    have hj : j < zs.length := by
      rcases Nat.lt_or_ge j zs.length with h | h
      · exact h
      · simp [List.getElem?_eq_none h] at hu
    rw [add_mk, hc j hj]
    simp only [List.getElem?_map, List.getElem?_eq_getElem hj, Option.map_some, Option.some.injEq] at hu
    rw [List.getD_eq_getElem?_getD, List.getElem?_eq_getElem hj, ← hu]; rfl
end Go.Proofs.YtcegipkhmibdeaaDoor
/- op.Plain: the operation with the fields that matter. -/
namespace Go.Proofs.YtcegipkhmibdeaaDoor
set_option linter.all false
open Go.RowKit

set_option maxRecDepth 100000 in
theorem plain_4 (i c n : Int) (f : Bool) (am : Value) (zs : List Int) (w : World) (hz : zs.length * 8 ≤ 140737488351232) (h : IntsAt w am zs) :
    Calls Tryd.prog 36 #[opV 4 i c n f am] w (RetOp w 4 i c n false zs) := by
  go_enter Tryd.func36, Tryd.ntmps36
  go_wp2_with fail
  go_region
  go_wp2_with fail
  refine (clone_any _ zs _ hz (h.below (by repeat (first | exact Below.refl _ _ | refine Below.drew ?_ | refine Below.alloc ?_ (by first | omega | (simp; done) | (simp; omega)) _)))).mono ?_
  rintro e w' ⟨a', c', rfl, hown, hb⟩
  obtain ⟨hc, hf⟩ := bcell hb
  have hsz := hb.size
  have hown' : w'.ownsRow (w.heap.size + 1 + 1 + 1) 2 1 (.slice a' zs.length c') zs.length (zs.map (Value.int .i64)) := by simpa using hown
  have hb0 : Below w.heap.size w w' := Below.trans (by repeat (first | exact Below.refl _ _ | refine Below.drew ?_ | refine Below.alloc ?_ (by first | omega | (simp; done) | (simp; omega)) _)) (hb.mono (by first | omega | (simp; done) | (simp; omega)))
  clear hown
  go_wp2
  refine bodyPost_ret (v := opV 4 i c n false (.slice a' zs.length c')) ?_ rfl ⟨a', c', rfl, ?_, ?_⟩
  · simp only [results, Tryd.results36]
    go_simp
  · refine ownsRow_low ?_ (show w.heap.size ≤ w.heap.size + 1 + 1 + 1 by omega)
    repeat (first | (with_reducible exact hown') | refine ownsRow_setCell_below ?_ (by show _ < _; simp only []; omega) _)
  · repeat (first | (with_reducible exact hb0) | refine Below.setCell ?_ (by show _ ≤ _; simp only []; omega) _)
set_option maxRecDepth 100000 in
theorem plain_2 (i c n : Int) (f : Bool) (am : Value) (zs : List Int) (w : World) (hz : zs.length * 8 ≤ 140737488351232) (h : IntsAt w am zs) :
    Calls Tryd.prog 36 #[opV 2 i c n f am] w (RetOp w 2 i 0 0 false zs) := by
  go_enter Tryd.func36, Tryd.ntmps36
  go_wp2_with fail
  refine (clone_any _ zs _ hz (h.below (by repeat (first | exact Below.refl _ _ | refine Below.drew ?_ | refine Below.alloc ?_ (by first | omega | (simp; done) | (simp; omega)) _)))).mono ?_
  rintro e w' ⟨a', c', rfl, hown, hb⟩
  obtain ⟨hc, hf⟩ := bcell hb
  have hsz := hb.size
  have hown' : w'.ownsRow (w.heap.size + 1 + 1 + 1) 2 1 (.slice a' zs.length c') zs.length (zs.map (Value.int .i64)) := by simpa using hown
  have hb0 : Below w.heap.size w w' := Below.trans (by repeat (first | exact Below.refl _ _ | refine Below.drew ?_ | refine Below.alloc ?_ (by first | omega | (simp; done) | (simp; omega)) _)) (hb.mono (by first | omega | (simp; done) | (simp; omega)))
  clear hown
  go_wp2
  refine bodyPost_ret (v := opV 2 i 0 0 false (.slice a' zs.length c')) ?_ rfl ⟨a', c', rfl, ?_, ?_⟩
  · simp only [results, Tryd.results36]
    go_simp
  · refine ownsRow_low ?_ (show w.heap.size ≤ w.heap.size + 1 + 1 + 1 by omega)
    repeat (first | (with_reducible exact hown') | refine ownsRow_setCell_below ?_ (by show _ < _; simp only []; omega) _)
  · repeat (first | (with_reducible exact hb0) | refine Below.setCell ?_ (by show _ ≤ _; simp only []; omega) _)
set_option maxRecDepth 100000 in
theorem plain_3 (i c n : Int) (f : Bool) (am : Value) (w : World) :
    Calls Tryd.prog 36 #[opV 3 i c n f am] w (RetOp w 3 i 0 0 false []) := by
  go_enter Tryd.func36, Tryd.ntmps36
  go_wp2
  refine bodyPost_ret (v := opV 3 i 0 0 false (.slice none 0 0)) ?_ rfl ⟨none, 0, rfl, World.ownsRow_nil _ _ _ _, ?_⟩
  · simp only [results, Tryd.results36]
    go_simp
  · repeat (first | exact Below.refl _ _ | refine Below.drew ?_ | refine Below.alloc ?_ (by first | omega | (simp; done) | (simp; omega)) _)
set_option maxRecDepth 100000 in
theorem plain_5 (i c n : Int) (f : Bool) (am : Value) (w : World) :
    Calls Tryd.prog 36 #[opV 5 i c n f am] w (RetOp w 5 i 0 0 false []) := by
  go_enter Tryd.func36, Tryd.ntmps36
  go_wp2
  refine bodyPost_ret (v := opV 5 i 0 0 false (.slice none 0 0)) ?_ rfl ⟨none, 0, rfl, World.ownsRow_nil _ _ _ _, ?_⟩
  · simp only [results, Tryd.results36]
    go_simp
  · repeat (first | exact Below.refl _ _ | refine Below.drew ?_ | refine Below.alloc ?_ (by first | omega | (simp; done) | (simp; omega)) _)
set_option maxRecDepth 100000 in
theorem plain_1 (i c n : Int) (f : Bool) (am : Value) (w : World) :
    Calls Tryd.prog 36 #[opV 1 i c n f am] w (RetOp w 1 i 0 n f []) := by
  go_enter Tryd.func36, Tryd.ntmps36
  go_wp2
  go_region
  go_wp2
  refine bodyPost_ret (v := opV 1 i 0 n f (.slice none 0 0)) ?_ rfl ⟨none, 0, rfl, World.ownsRow_nil _ _ _ _, ?_⟩
  · simp only [results, Tryd.results36]
    go_simp
  · repeat (first | exact Below.refl _ _ | refine Below.drew ?_ | refine Below.alloc ?_ (by first | omega | (simp; done) | (simp; omega)) _)
set_option maxRecDepth 100000 in
theorem plain_6 (i c n : Int) (f : Bool) (am : Value) (w : World) :
    Calls Tryd.prog 36 #[opV 6 i c n f am] w (RetOp w 6 0 0 n false []) := by
  go_enter Tryd.func36, Tryd.ntmps36
  go_wp2
  refine bodyPost_ret (v := opV 6 0 0 n false (.slice none 0 0)) ?_ rfl ⟨none, 0, rfl, World.ownsRow_nil _ _ _ _, ?_⟩
  · simp only [results, Tryd.results36]
    go_simp
  · repeat (first | exact Below.refl _ _ | refine Below.drew ?_ | refine Below.alloc ?_ (by first | omega | (simp; done) | (simp; omega)) _)
set_option maxRecDepth 100000 in
theorem plain_x (k : Int) (hk : k < 1 ∨ 6 < k) (i c n : Int) (f : Bool) (am : Value) (w : World) :
    Calls Tryd.prog 36 #[opV k i c n f am] w (RetOp w k 0 0 0 false []) := by
  have h1 : (k == 1) = false := by simp; omega
  have h2 : (k == 2) = false := by simp; omega
  have h3 : (k == 3) = false := by simp; omega
  have h4 : (k == 4) = false := by simp; omega
  have h5 : (k == 5) = false := by simp; omega
  have h6 : (k == 6) = false := by simp; omega
  go_enter Tryd.func36, Tryd.ntmps36
  go_wp2
  refine bodyPost_ret (v := opV k 0 0 0 false (.slice none 0 0)) ?_ rfl ⟨none, 0, rfl, World.ownsRow_nil _ _ _ _, ?_⟩
  · simp only [results, Tryd.results36]
    go_simp
  · repeat (first | exact Below.refl _ _ | refine Below.drew ?_ | refine Below.alloc ?_ (by first | omega | (simp; done) | (simp; omega)) _)
end Go.Proofs.YtcegipkhmibdeaaDoor
/- hammockref03.Plain, and both plain operations for any kind. -/
namespace Go.Proofs.YtcegipkhmibdeaaDoor
set_option linter.all false
open Go.RowKit

/-- A result that is an operation with given amounts. -/
def RetOpR (W : World) (k i c n : Int) (f : Bool) (am : Value) (e : Ending) (w' : World) : Prop := e = .returned (opV k i c n f am) ∧ Below W.heap.size W w'
def pI (k i : Int) : Int := if 1 ≤ k ∧ k ≤ 5 then i else 0
def pC (k c : Int) : Int := if k = 4 then c else 0
def pN (k n : Int) : Int := if k = 1 ∨ k = 4 ∨ k = 6 then n else 0
def pF (k : Int) (f : Bool) : Bool := if k = 1 then f else false
def pZ (k : Int) (zs : List Int) : List Int := if k = 2 ∨ k = 4 then zs else []
def pA (k : Int) (am : Value) : Value := if k = 2 ∨ k = 4 then am else .slice none 0 0

theorem kinds (k : Int) : k = 1 ∨ k = 2 ∨ k = 3 ∨ k = 4 ∨ k = 5 ∨ k = 6 ∨ (k < 1 ∨ 6 < k) := by omega
theorem plain_any (k i c n : Int) (f : Bool) (am : Value) (zs : List Int) (w : World) (hz : zs.length * 8 ≤ 140737488351232) (h : IntsAt w am zs) :
    Calls Tryd.prog 36 #[opV k i c n f am] w (RetOp w k (pI k i) (pC k c) (pN k n) (pF k f) (pZ k zs)) := by
  rcases kinds k with rfl | rfl | rfl | rfl | rfl | rfl | hk
  · exact plain_1 i c n f am w
  · exact plain_2 i c n f am zs w hz h
  · exact plain_3 i c n f am w
  · exact plain_4 i c n f am zs w hz h
  · exact plain_5 i c n f am w
  · exact plain_6 i c n f am w
  · have e1 : pI k i = 0 := by unfold pI; rw [if_neg (by omega)]
    have e2 : pC k c = 0 := by unfold pC; rw [if_neg (by omega)]
    have e3 : pN k n = 0 := by unfold pN; rw [if_neg (by omega)]
    have e4 : pF k f = false := by unfold pF; rw [if_neg (by omega)]
    have e5 : pZ k zs = [] := by unfold pZ; rw [if_neg (by omega)]
    rw [e1, e2, e3, e4, e5]
    exact plain_x k hk i c n f am w
set_option maxRecDepth 100000 in
theorem rplain_1 (i c n : Int) (f : Bool) (a : Option Addr) (l cp : Nat) (w : World) : Calls Tryd.prog 39 #[opV 1 i c n f (.slice a l cp)] w (RetOpR w 1 i 0 n f (.slice none 0 0)) := by
  go_enter Tryd.func39, Tryd.ntmps39
  go_wp2
  refine bodyPost_ret (v := opV 1 i 0 n f (.slice none 0 0)) ?_ rfl ⟨rfl, ?_⟩
  · simp only [results, Tryd.results39]
    go_simp
  · repeat (first | exact Below.refl _ _ | refine Below.drew ?_ | refine Below.alloc ?_ (by first | omega | (simp; done) | (simp; omega)) _)
set_option maxRecDepth 100000 in
theorem rplain_2 (i c n : Int) (f : Bool) (a : Option Addr) (l cp : Nat) (w : World) : Calls Tryd.prog 39 #[opV 2 i c n f (.slice a l cp)] w (RetOpR w 2 i 0 0 false (.slice a l cp)) := by
  go_enter Tryd.func39, Tryd.ntmps39
  go_wp2
  refine bodyPost_ret (v := opV 2 i 0 0 false (.slice a l cp)) ?_ rfl ⟨rfl, ?_⟩
  · simp only [results, Tryd.results39]
    go_simp
  · repeat (first | exact Below.refl _ _ | refine Below.drew ?_ | refine Below.alloc ?_ (by first | omega | (simp; done) | (simp; omega)) _)
set_option maxRecDepth 100000 in
theorem rplain_3 (i c n : Int) (f : Bool) (a : Option Addr) (l cp : Nat) (w : World) : Calls Tryd.prog 39 #[opV 3 i c n f (.slice a l cp)] w (RetOpR w 3 i 0 0 false (.slice none 0 0)) := by
  go_enter Tryd.func39, Tryd.ntmps39
  go_wp2
  refine bodyPost_ret (v := opV 3 i 0 0 false (.slice none 0 0)) ?_ rfl ⟨rfl, ?_⟩
  · simp only [results, Tryd.results39]
    go_simp
  · repeat (first | exact Below.refl _ _ | refine Below.drew ?_ | refine Below.alloc ?_ (by first | omega | (simp; done) | (simp; omega)) _)
set_option maxRecDepth 100000 in
theorem rplain_4 (i c n : Int) (f : Bool) (a : Option Addr) (l cp : Nat) (w : World) : Calls Tryd.prog 39 #[opV 4 i c n f (.slice a l cp)] w (RetOpR w 4 i c n false (.slice a l cp)) := by
  go_enter Tryd.func39, Tryd.ntmps39
  go_wp2
  refine bodyPost_ret (v := opV 4 i c n false (.slice a l cp)) ?_ rfl ⟨rfl, ?_⟩
  · simp only [results, Tryd.results39]
    go_simp
  · repeat (first | exact Below.refl _ _ | refine Below.drew ?_ | refine Below.alloc ?_ (by first | omega | (simp; done) | (simp; omega)) _)
set_option maxRecDepth 100000 in
theorem rplain_5 (i c n : Int) (f : Bool) (a : Option Addr) (l cp : Nat) (w : World) : Calls Tryd.prog 39 #[opV 5 i c n f (.slice a l cp)] w (RetOpR w 5 i 0 0 false (.slice none 0 0)) := by
  go_enter Tryd.func39, Tryd.ntmps39
  go_wp2
  refine bodyPost_ret (v := opV 5 i 0 0 false (.slice none 0 0)) ?_ rfl ⟨rfl, ?_⟩
  · simp only [results, Tryd.results39]
    go_simp
  · repeat (first | exact Below.refl _ _ | refine Below.drew ?_ | refine Below.alloc ?_ (by first | omega | (simp; done) | (simp; omega)) _)
set_option maxRecDepth 100000 in
theorem rplain_6 (i c n : Int) (f : Bool) (a : Option Addr) (l cp : Nat) (w : World) : Calls Tryd.prog 39 #[opV 6 i c n f (.slice a l cp)] w (RetOpR w 6 0 0 n false (.slice none 0 0)) := by
  go_enter Tryd.func39, Tryd.ntmps39
  go_wp2
  refine bodyPost_ret (v := opV 6 0 0 n false (.slice none 0 0)) ?_ rfl ⟨rfl, ?_⟩
  · simp only [results, Tryd.results39]
    go_simp
  · repeat (first | exact Below.refl _ _ | refine Below.drew ?_ | refine Below.alloc ?_ (by first | omega | (simp; done) | (simp; omega)) _)
set_option maxRecDepth 100000 in
theorem rplain_l (k : Int) (hk : k < 1) (i c n : Int) (f : Bool) (a : Option Addr) (l cp : Nat) (w : World) : Calls Tryd.prog 39 #[opV k i c n f (.slice a l cp)] w (RetOpR w k 0 0 0 false (.slice none 0 0)) := by
  have h1 : (k == 1) = false := by simp; omega
  have h2 : (k == 2) = false := by simp; omega
  have h3 : (k == 3) = false := by simp; omega
  have h4 : (k == 4) = false := by simp; omega
  have h5 : (k == 5) = false := by simp; omega
  have h6 : (k == 6) = false := by simp; omega
  go_enter Tryd.func39, Tryd.ntmps39
  go_wp2
  refine bodyPost_ret (v := opV k 0 0 0 false (.slice none 0 0)) ?_ rfl ⟨rfl, ?_⟩
  · simp only [results, Tryd.results39]
    go_simp
  · repeat (first | exact Below.refl _ _ | refine Below.drew ?_ | refine Below.alloc ?_ (by first | omega | (simp; done) | (simp; omega)) _)
set_option maxRecDepth 100000 in
theorem rplain_g (k : Int) (hk : 6 < k) (i c n : Int) (f : Bool) (a : Option Addr) (l cp : Nat) (w : World) : Calls Tryd.prog 39 #[opV k i c n f (.slice a l cp)] w (RetOpR w k 0 0 0 false (.slice none 0 0)) := by
  have h1 : (k == 1) = false := by simp; omega
  have h2 : (k == 2) = false := by simp; omega
  have h3 : (k == 3) = false := by simp; omega
  have h4 : (k == 4) = false := by simp; omega
  have h5 : (k == 5) = false := by simp; omega
  have h6 : (k == 6) = false := by simp; omega
  go_enter Tryd.func39, Tryd.ntmps39
  go_wp2
  refine bodyPost_ret (v := opV k 0 0 0 false (.slice none 0 0)) ?_ rfl ⟨rfl, ?_⟩
  · simp only [results, Tryd.results39]
    go_simp
  · repeat (first | exact Below.refl _ _ | refine Below.drew ?_ | refine Below.alloc ?_ (by first | omega | (simp; done) | (simp; omega)) _)
theorem rplain_any (k i c n : Int) (f : Bool) (am : Value) (zs : List Int) (w : World) (h : IntsAt w am zs) :
    Calls Tryd.prog 39 #[opV k i c n f am] w (RetOpR w k (pI k i) (pC k c) (pN k n) (pF k f) (pA k am)) := by
  obtain ⟨a, cp, rfl, -⟩ := h
  obtain ⟨l, hl⟩ : ∃ l, l = zs.length := ⟨_, rfl⟩
  rw [← hl]
  rcases kinds k with rfl | rfl | rfl | rfl | rfl | rfl | hk
  · exact rplain_1 i c n f a l cp w
  · exact rplain_2 i c n f a l cp w
  · exact rplain_3 i c n f a l cp w
  · exact rplain_4 i c n f a l cp w
  · exact rplain_5 i c n f a l cp w
  · exact rplain_6 i c n f a l cp w
  · have e1 : pI k i = 0 := by unfold pI; rw [if_neg (by omega)]
    have e2 : pC k c = 0 := by unfold pC; rw [if_neg (by omega)]
    have e3 : pN k n = 0 := by unfold pN; rw [if_neg (by omega)]
    have e4 : pF k f = false := by unfold pF; rw [if_neg (by omega)]
    have e5 : pA k (.slice a l cp) = .slice none 0 0 := by unfold pA; rw [if_neg (by omega)]
    rw [e1, e2, e3, e4, e5]
    rcases hk with hk | hk
    · exact rplain_l k hk i c n f a l cp w
    · exact rplain_g k hk i c n f a l cp w
end Go.Proofs.YtcegipkhmibdeaaDoor
/- hammockref03.Equal: all fields of two operations are compared. -/
namespace Go.Proofs.YtcegipkhmibdeaaDoor
set_option linter.all false
open Go.RowKit

def eqOp (k i c n : Int) (f : Bool) (zs : List Int) (k' i' c' n' : Int) (f' : Bool) (zs' : List Int) : Bool := (((((k == k') && (i == i')) && (c == c')) && (n == n')) && (f == f')) && (zs == zs')
set_option maxRecDepth 100000 in
theorem refEqual_0 (k i c n : Int) (f : Bool) (am : Value) (zs : List Int) (k' i' c' n' : Int) (f' : Bool) (am' : Value) (zs' : List Int) (w : World) (hx : zs.length * 8 ≤ 140737488351232) (hy : zs'.length * 8 ≤ 140737488351232) (h : IntsAt w am zs) (h' : IntsAt w am' zs') (h0 : (k == k') = false) :
    Calls Tryd.prog 38 #[opV k i c n f am, opV k' i' c' n' f' am'] w fun e w' => e = .returned (.bool false) ∧ Below w.heap.size w w' := by
  go_enter Tryd.func38, Tryd.ntmps38
  go_wp2
  go_ret
  exact ⟨rfl, (by repeat (first | exact Below.refl _ _ | refine Below.drew ?_ | refine Below.alloc ?_ (by first | omega | (simp; done) | (simp; omega)) _))⟩
set_option maxRecDepth 100000 in
theorem refEqual_1 (k i c n : Int) (f : Bool) (am : Value) (zs : List Int) (k' i' c' n' : Int) (f' : Bool) (am' : Value) (zs' : List Int) (w : World) (hx : zs.length * 8 ≤ 140737488351232) (hy : zs'.length * 8 ≤ 140737488351232) (h : IntsAt w am zs) (h' : IntsAt w am' zs') (h0 : (k == k') = true) (h1 : (i == i') = false) :
    Calls Tryd.prog 38 #[opV k i c n f am, opV k' i' c' n' f' am'] w fun e w' => e = .returned (.bool false) ∧ Below w.heap.size w w' := by
  go_enter Tryd.func38, Tryd.ntmps38
  go_wp2
  go_ret
  exact ⟨rfl, (by repeat (first | exact Below.refl _ _ | refine Below.drew ?_ | refine Below.alloc ?_ (by first | omega | (simp; done) | (simp; omega)) _))⟩
set_option maxRecDepth 100000 in
theorem refEqual_2 (k i c n : Int) (f : Bool) (am : Value) (zs : List Int) (k' i' c' n' : Int) (f' : Bool) (am' : Value) (zs' : List Int) (w : World) (hx : zs.length * 8 ≤ 140737488351232) (hy : zs'.length * 8 ≤ 140737488351232) (h : IntsAt w am zs) (h' : IntsAt w am' zs') (h0 : (k == k') = true) (h1 : (i == i') = true) (h2 : (c == c') = false) :
    Calls Tryd.prog 38 #[opV k i c n f am, opV k' i' c' n' f' am'] w fun e w' => e = .returned (.bool false) ∧ Below w.heap.size w w' := by
  go_enter Tryd.func38, Tryd.ntmps38
  go_wp2
  go_ret
  exact ⟨rfl, (by repeat (first | exact Below.refl _ _ | refine Below.drew ?_ | refine Below.alloc ?_ (by first | omega | (simp; done) | (simp; omega)) _))⟩
set_option maxRecDepth 100000 in
theorem refEqual_3 (k i c n : Int) (f : Bool) (am : Value) (zs : List Int) (k' i' c' n' : Int) (f' : Bool) (am' : Value) (zs' : List Int) (w : World) (hx : zs.length * 8 ≤ 140737488351232) (hy : zs'.length * 8 ≤ 140737488351232) (h : IntsAt w am zs) (h' : IntsAt w am' zs') (h0 : (k == k') = true) (h1 : (i == i') = true) (h2 : (c == c') = true) (h3 : (n == n') = false) :
    Calls Tryd.prog 38 #[opV k i c n f am, opV k' i' c' n' f' am'] w fun e w' => e = .returned (.bool false) ∧ Below w.heap.size w w' := by
  go_enter Tryd.func38, Tryd.ntmps38
  go_wp2
  go_ret
  exact ⟨rfl, (by repeat (first | exact Below.refl _ _ | refine Below.drew ?_ | refine Below.alloc ?_ (by first | omega | (simp; done) | (simp; omega)) _))⟩
set_option maxRecDepth 100000 in
theorem refEqual_4 (k i c n : Int) (f : Bool) (am : Value) (zs : List Int) (k' i' c' n' : Int) (f' : Bool) (am' : Value) (zs' : List Int) (w : World) (hx : zs.length * 8 ≤ 140737488351232) (hy : zs'.length * 8 ≤ 140737488351232) (h : IntsAt w am zs) (h' : IntsAt w am' zs') (h0 : (k == k') = true) (h1 : (i == i') = true) (h2 : (c == c') = true) (h3 : (n == n') = true) (h4 : (f == f') = false) :
    Calls Tryd.prog 38 #[opV k i c n f am, opV k' i' c' n' f' am'] w fun e w' => e = .returned (.bool false) ∧ Below w.heap.size w w' := by
  go_enter Tryd.func38, Tryd.ntmps38
  go_wp2
  go_ret
  exact ⟨rfl, (by repeat (first | exact Below.refl _ _ | refine Below.drew ?_ | refine Below.alloc ?_ (by first | omega | (simp; done) | (simp; omega)) _))⟩
set_option maxRecDepth 100000 in
theorem refEqual_5 (k i c n : Int) (f : Bool) (am : Value) (zs : List Int) (k' i' c' n' : Int) (f' : Bool) (am' : Value) (zs' : List Int) (w : World) (hx : zs.length * 8 ≤ 140737488351232) (hy : zs'.length * 8 ≤ 140737488351232) (h : IntsAt w am zs) (h' : IntsAt w am' zs') (h0 : (k == k') = true) (h1 : (i == i') = true) (h2 : (c == c') = true) (h3 : (n == n') = true) (h4 : (f == f') = true) :
    Calls Tryd.prog 38 #[opV k i c n f am, opV k' i' c' n' f' am'] w fun e w' => e = .returned (.bool (zs == zs')) ∧ Below w.heap.size w w' := by
  go_enter Tryd.func38, Tryd.ntmps38
  go_wp2_with fail
  refine (same01_any am am' zs zs' _ hx hy (h.below (by repeat (first | exact Below.refl _ _ | refine Below.drew ?_ | refine Below.alloc ?_ (by first | omega | (simp; done) | (simp; omega)) _))) (h'.below (by repeat (first | exact Below.refl _ _ | refine Below.drew ?_ | refine Below.alloc ?_ (by first | omega | (simp; done) | (simp; omega)) _)))).mono ?_
  rintro e w1 ⟨rfl, B1⟩
  go_wp2
  go_ret
  exact ⟨rfl, Below.trans (by repeat (first | exact Below.refl _ _ | refine Below.drew ?_ | refine Below.alloc ?_ (by first | omega | (simp; done) | (simp; omega)) _)) (B1.mono (by first | omega | (simp; done) | (simp; omega)))⟩
theorem refEqual_any (k i c n : Int) (f : Bool) (am : Value) (zs : List Int) (k' i' c' n' : Int) (f' : Bool) (am' : Value) (zs' : List Int) (w : World) (hx : zs.length * 8 ≤ 140737488351232) (hy : zs'.length * 8 ≤ 140737488351232) (h : IntsAt w am zs) (h' : IntsAt w am' zs') :
    Calls Tryd.prog 38 #[opV k i c n f am, opV k' i' c' n' f' am'] w fun e w' => e = .returned (.bool (eqOp k i c n f zs k' i' c' n' f' zs')) ∧ Below w.heap.size w w' := by
  unfold eqOp
  cases h0 : k == k'
  · exact refEqual_0 k i c n f am zs k' i' c' n' f' am' zs' w hx hy h h' h0
  cases h1 : i == i'
  · exact refEqual_1 k i c n f am zs k' i' c' n' f' am' zs' w hx hy h h' h0 h1
  cases h2 : c == c'
  · exact refEqual_2 k i c n f am zs k' i' c' n' f' am' zs' w hx hy h h' h0 h1 h2
  cases h3 : n == n'
  · exact refEqual_3 k i c n f am zs k' i' c' n' f' am' zs' w hx hy h h' h0 h1 h2 h3
  cases h4 : f == f'
  · exact refEqual_4 k i c n f am zs k' i' c' n' f' am' zs' w hx hy h h' h0 h1 h2 h3 h4
  exact refEqual_5 k i c n f am zs k' i' c' n' f' am' zs' w hx hy h h' h0 h1 h2 h3 h4
end Go.Proofs.YtcegipkhmibdeaaDoor
/- hammockref03.Same and op.Same. -/
namespace Go.Proofs.YtcegipkhmibdeaaDoor
set_option linter.all false
open Go.RowKit

/-- A world with two new blocks. -/
def two (w : World) (A B : Array Value) (T : TypeId) : World := (w.alloc (.cells A T)).alloc (.cells B T)
theorem two_1 (w : World) (A B : Array Value) (T : TypeId) (j : Nat) : (two w A B T).cell? ⟨w.heap.size, j, none⟩ = A[j]? := by unfold two; go_simp
theorem two_2 (w : World) (A B : Array Value) (T : TypeId) (j : Nat) : (two w A B T).cell? ⟨w.heap.size + 1, j, none⟩ = B[j]? := by unfold two; go_simp
def sameOp (k i c n : Int) (f : Bool) (zs : List Int) (k' i' c' n' : Int) (f' : Bool) (zs' : List Int) : Bool :=
  eqOp k (pI k i) (pC k c) (pN k n) (pF k f) (pZ k zs) k' (pI k' i') (pC k' c') (pN k' n') (pF k' f') (pZ k' zs')
theorem ints_pA {w : World} {k : Int} {am : Value} {zs : List Int} (h : IntsAt w am zs) : IntsAt w (pA k am) (pZ k zs) := by
  unfold pA pZ
  split
  · exact h
  · exact ⟨_, _, rfl, .inl rfl⟩

theorem rplain_sl (k i c n : Int) (f : Bool) (a : Option Addr) (l cp : Nat) (w : World) :
    Calls Tryd.prog 39 #[opV k i c n f (.slice a l cp)] w (RetOpR w k (pI k i) (pC k c) (pN k n) (pF k f) (pA k (.slice a l cp))) := by
  rcases kinds k with rfl | rfl | rfl | rfl | rfl | rfl | hk
  · exact rplain_1 i c n f a l cp w
  · exact rplain_2 i c n f a l cp w
  · exact rplain_3 i c n f a l cp w
  · exact rplain_4 i c n f a l cp w
  · exact rplain_5 i c n f a l cp w
  · exact rplain_6 i c n f a l cp w
  · have e1 : pI k i = 0 := by unfold pI; rw [if_neg (by omega)]
    have e2 : pC k c = 0 := by unfold pC; rw [if_neg (by omega)]
    have e3 : pN k n = 0 := by unfold pN; rw [if_neg (by omega)]
    have e4 : pF k f = false := by unfold pF; rw [if_neg (by omega)]
    have e5 : pA k (.slice a l cp) = .slice none 0 0 := by unfold pA; rw [if_neg (by omega)]
    rw [e1, e2, e3, e4, e5]
    rcases hk with hk | hk
    · exact rplain_l k hk i c n f a l cp w
    · exact rplain_g k hk i c n f a l cp w

set_option maxRecDepth 100000 in
theorem refSame_any (k i c n : Int) (f : Bool) (a : Option Addr) (l cp : Nat) (zs : List Int) (k' i' c' n' : Int) (f' : Bool) (a' : Option Addr) (l' cp' : Nat) (zs' : List Int) (w : World) (hx : zs.length * 8 ≤ 140737488351232) (hy : zs'.length * 8 ≤ 140737488351232) (h : IntsAt w (.slice a l cp) zs) (h' : IntsAt w (.slice a' l' cp') zs') :
    Calls Tryd.prog 41 #[opV k i c n f (.slice a l cp), opV k' i' c' n' f' (.slice a' l' cp')] w fun e w' => e = .returned (.bool (sameOp k i c n f zs k' i' c' n' f' zs')) ∧ Below w.heap.size w w' := by
  have hx' : (pZ k zs).length * 8 ≤ 140737488351232 := by unfold pZ; split <;> first | omega | simp
  have hy' : (pZ k' zs').length * 8 ≤ 140737488351232 := by unfold pZ; split <;> first | omega | simp
  have hA := ints_pA (k := k) h
  have hA' := ints_pA (k := k') h'
  have R1 := rplain_sl k i c n f a l cp
  have R2 := rplain_sl k' i' c' n' f' a' l' cp'
  have R3 := refEqual_any k (pI k i) (pC k c) (pN k n) (pF k f) (pA k (.slice a l cp)) (pZ k zs) k' (pI k' i') (pC k' c') (pN k' n') (pF k' f') (pA k' (.slice a' l' cp')) (pZ k' zs')
  obtain ⟨a1, l1, c1, hA1⟩ : ∃ a1 l1 c1, pA k (.slice a l cp) = .slice a1 l1 c1 := by obtain ⟨x, y, z, _⟩ := hA; exact ⟨_, _, _, z⟩
  obtain ⟨a2, l2, c2, hA2⟩ : ∃ a2 l2 c2, pA k' (.slice a' l' cp') = .slice a2 l2 c2 := by obtain ⟨x, y, z, _⟩ := hA'; exact ⟨_, _, _, z⟩
  rw [hA1] at R1 R3 hA
  rw [hA2] at R2 R3 hA'
  clear hA1 hA2 h h'
  unfold sameOp
  generalize pI k i = i1 at *
  generalize pC k c = cc1 at *
  generalize pN k n = n1 at *
  generalize pF k f = f1 at *
  generalize pI k' i' = i2 at *
  generalize pC k' c' = cc2 at *
  generalize pN k' n' = n2 at *
  generalize pF k' f' = f2 at *
  generalize pZ k zs = z1 at *
  generalize pZ k' zs' = z2 at *
  generalize eqOp k i1 cc1 n1 f1 z1 k' i2 cc2 n2 f2 z2 = res at *
  have HR1 := Lib.hid R1; clear R1
  have HR2 := Lib.hid R2; clear R2
  have HR3 := Lib.hid R3; clear R3
  go_enter Tryd.func41, Tryd.ntmps41
  go_wp2
  obtain ⟨w0, hw0⟩ : ∃ w0, w0 = two w #[.int .i64 k, .int .i64 i, .int .i64 c, .int .i64 n, .bool f, .slice a l cp] #[.int .i64 k', .int .i64 i', .int .i64 c', .int .i64 n', .bool f', .slice a' l' cp'] 41 := ⟨_, rfl⟩
  change Code.wp _ _ _ _ (two w #[.int .i64 k, .int .i64 i, .int .i64 c, .int .i64 n, .bool f, .slice a l cp] #[.int .i64 k', .int .i64 i', .int .i64 c', .int .i64 n', .bool f', .slice a' l' cp'] 41)
  rw [← hw0]
  have p0 : w0.cell? ⟨w.heap.size, 0, none⟩ = some (.int .i64 k) := by rw [hw0]; exact two_1 ..
  have p1 : w0.cell? ⟨w.heap.size, 1, none⟩ = some (.int .i64 i) := by rw [hw0]; exact two_1 ..
  have p2 : w0.cell? ⟨w.heap.size, 2, none⟩ = some (.int .i64 c) := by rw [hw0]; exact two_1 ..
  have p3 : w0.cell? ⟨w.heap.size, 3, none⟩ = some (.int .i64 n) := by rw [hw0]; exact two_1 ..
  have p4 : w0.cell? ⟨w.heap.size, 4, none⟩ = some (.bool f) := by rw [hw0]; exact two_1 ..
  have p5 : w0.cell? ⟨w.heap.size, 5, none⟩ = some (.slice a l cp) := by rw [hw0]; exact two_1 ..
  have q0 : w0.cell? ⟨w.heap.size + 1, 0, none⟩ = some (.int .i64 k') := by rw [hw0]; exact two_2 ..
  have q1 : w0.cell? ⟨w.heap.size + 1, 1, none⟩ = some (.int .i64 i') := by rw [hw0]; exact two_2 ..
  have q2 : w0.cell? ⟨w.heap.size + 1, 2, none⟩ = some (.int .i64 c') := by rw [hw0]; exact two_2 ..
  have q3 : w0.cell? ⟨w.heap.size + 1, 3, none⟩ = some (.int .i64 n') := by rw [hw0]; exact two_2 ..
  have q4 : w0.cell? ⟨w.heap.size + 1, 4, none⟩ = some (.bool f') := by rw [hw0]; exact two_2 ..
  have q5 : w0.cell? ⟨w.heap.size + 1, 5, none⟩ = some (.slice a' l' cp') := by rw [hw0]; exact two_2 ..
  have hs : w0.heap.size = w.heap.size + 1 + 1 := by rw [hw0]; simp [two]
  have hB : Below w.heap.size w w0 := by rw [hw0]; exact ((Below.refl _ w).alloc (Nat.le_refl _) _).alloc (by simp) _
  have hlt : w.heap.size < w0.heap.size := by omega
  have hlt1 : w.heap.size + 1 < w0.heap.size := by omega
  clear hw0
  have HS := Lib.hid hs; clear hs
  have HK : Hid (∀ w' : World, Below w0.heap.size w0 w' → (w'.cell? ⟨w.heap.size, 0, none⟩ = some (.int .i64 k) ∧ w'.cell? ⟨w.heap.size, 1, none⟩ = some (.int .i64 i) ∧ w'.cell? ⟨w.heap.size, 2, none⟩ = some (.int .i64 c) ∧ w'.cell? ⟨w.heap.size, 3, none⟩ = some (.int .i64 n) ∧ w'.cell? ⟨w.heap.size, 4, none⟩ = some (.bool f) ∧ w'.cell? ⟨w.heap.size, 5, none⟩ = some (.slice a l cp) ∧ w'.cell? ⟨w.heap.size + 1, 0, none⟩ = some (.int .i64 k') ∧ w'.cell? ⟨w.heap.size + 1, 1, none⟩ = some (.int .i64 i') ∧ w'.cell? ⟨w.heap.size + 1, 2, none⟩ = some (.int .i64 c') ∧ w'.cell? ⟨w.heap.size + 1, 3, none⟩ = some (.int .i64 n') ∧ w'.cell? ⟨w.heap.size + 1, 4, none⟩ = some (.bool f') ∧ w'.cell? ⟨w.heap.size + 1, 5, none⟩ = some (.slice a' l' cp'))) := fun w' h => ⟨(h.cell (p := ⟨w.heap.size, 0, none⟩) hlt).trans p0, (h.cell (p := ⟨w.heap.size, 1, none⟩) hlt).trans p1, (h.cell (p := ⟨w.heap.size, 2, none⟩) hlt).trans p2, (h.cell (p := ⟨w.heap.size, 3, none⟩) hlt).trans p3, (h.cell (p := ⟨w.heap.size, 4, none⟩) hlt).trans p4, (h.cell (p := ⟨w.heap.size, 5, none⟩) hlt).trans p5, (h.cell (p := ⟨w.heap.size + 1, 0, none⟩) hlt1).trans q0, (h.cell (p := ⟨w.heap.size + 1, 1, none⟩) hlt1).trans q1, (h.cell (p := ⟨w.heap.size + 1, 2, none⟩) hlt1).trans q2, (h.cell (p := ⟨w.heap.size + 1, 3, none⟩) hlt1).trans q3, (h.cell (p := ⟨w.heap.size + 1, 4, none⟩) hlt1).trans q4, (h.cell (p := ⟨w.heap.size + 1, 5, none⟩) hlt1).trans q5⟩
  have hB0 : Below w0.heap.size w0 w0.drew := (Below.refl _ w0).drew
  go_region_held3 (fun w' => w'.cell? ⟨w.heap.size, 0, none⟩ = some (.int .i64 k) ∧ w'.cell? ⟨w.heap.size, 1, none⟩ = some (.int .i64 i) ∧ w'.cell? ⟨w.heap.size, 2, none⟩ = some (.int .i64 c) ∧ w'.cell? ⟨w.heap.size, 3, none⟩ = some (.int .i64 n) ∧ w'.cell? ⟨w.heap.size, 4, none⟩ = some (.bool f) ∧ w'.cell? ⟨w.heap.size, 5, none⟩ = some (.slice a l cp) ∧ w'.cell? ⟨w.heap.size + 1, 0, none⟩ = some (.int .i64 k') ∧ w'.cell? ⟨w.heap.size + 1, 1, none⟩ = some (.int .i64 i') ∧ w'.cell? ⟨w.heap.size + 1, 2, none⟩ = some (.int .i64 c') ∧ w'.cell? ⟨w.heap.size + 1, 3, none⟩ = some (.int .i64 n') ∧ w'.cell? ⟨w.heap.size + 1, 4, none⟩ = some (.bool f') ∧ w'.cell? ⟨w.heap.size + 1, 5, none⟩ = some (.slice a' l' cp'))
    (first
      | exact HK.out _ hb3
      | exact HK.out _ hb2
      | exact HK.out _ hb1
      | go_keep)
    (first
    | (go_at_call 39; ((with_reducible refine (HR1.out _).mono ?_)); rintro e w1 ⟨rfl, hb⟩; have hb1 : Below w0.heap.size w0 w1 := hB0.trans hb; clear hb)
    | (go_at_call 39; ((with_reducible refine (HR2.out _).mono ?_)); rintro e w2 ⟨rfl, hb⟩; have hb2 : Below w0.heap.size w0 w2 := hb1.trans (hb.mono hb1.size); clear hb)
    | (go_at_call 38; refine (HR3.out _ hx' hy' (hA.below (hB.trans (hb2.mono hB.size))) (hA'.below (hB.trans (hb2.mono hB.size)))).mono ?_; rintro e w3 ⟨rfl, hb⟩; have hb3 : Below w0.heap.size w0 w3 := hb2.trans (hb.mono hb2.size); clear hb))
  go_wp2
  go_ret
  exact ⟨rfl, hB.trans (hb3.mono hB.size)⟩
theorem two_f1 (w : World) (A B : Array Value) (T : TypeId) (j : Nat) : (two w A B T).frozen? ⟨w.heap.size, j, none⟩ = false := by unfold two; go_simp
theorem two_f2 (w : World) (A B : Array Value) (T : TypeId) (j : Nat) : (two w A B T).frozen? ⟨w.heap.size + 1, j, none⟩ = false := by unfold two; go_simp
end Go.Proofs.YtcegipkhmibdeaaDoor
/- op.Same: two operations are compared by the fields that matter. -/
namespace Go.Proofs.YtcegipkhmibdeaaDoor
set_option linter.all false
open Go.RowKit

theorem ownsRow_below {w w' : World} {base E size n : Nat} {v : Value} {xs : List Value} (h : w.ownsRow base E size v n xs) (hb : Below w.heap.size w w') : w'.ownsRow base E size v n xs := by
  refine ⟨h.1, ?_⟩
  rcases h.2 with h2 | ⟨g, cap, cur, hv, hg, hh, r⟩
  · exact .inl h2
  · exact .inr ⟨g, cap, cur, hv, hg, by rw [hb.block g (Array.getElem?_eq_some_iff.1 hh).1]; exact hh, r⟩
set_option maxRecDepth 100000 in
theorem sameStore (w : World) (b : Nat) (k i1 cc1 n1 : Int) (f1 : Bool) (v1 : Value) (k' i2 cc2 n2 : Int) (f2 : Bool) (v2 : Value) (x0 x1 x2 x3 x4 x5 y0 y1 y2 y3 y4 y5 : Value)
    (r0 : w.cell? ⟨b, 0, none⟩ = some x0) (r1 : w.cell? ⟨b, 1, none⟩ = some x1) (r2 : w.cell? ⟨b, 2, none⟩ = some x2) (r3 : w.cell? ⟨b, 3, none⟩ = some x3) (r4 : w.cell? ⟨b, 4, none⟩ = some x4) (r5 : w.cell? ⟨b, 5, none⟩ = some x5) (s0 : w.cell? ⟨b + 1, 0, none⟩ = some y0) (s1 : w.cell? ⟨b + 1, 1, none⟩ = some y1) (s2 : w.cell? ⟨b + 1, 2, none⟩ = some y2) (s3 : w.cell? ⟨b + 1, 3, none⟩ = some y3) (s4 : w.cell? ⟨b + 1, 4, none⟩ = some y4) (s5 : w.cell? ⟨b + 1, 5, none⟩ = some y5) :
    ((((((((((((w.setCell ⟨b, 0, none⟩ (.int .i64 k)).setCell ⟨b, 1, none⟩ (.int .i64 i1)).setCell ⟨b, 2, none⟩ (.int .i64 cc1)).setCell ⟨b, 3, none⟩ (.int .i64 n1)).setCell ⟨b, 4, none⟩ (.bool f1)).setCell ⟨b, 5, none⟩ v1).setCell ⟨b + 1, 0, none⟩ (.int .i64 k')).setCell ⟨b + 1, 1, none⟩ (.int .i64 i2)).setCell ⟨b + 1, 2, none⟩ (.int .i64 cc2)).setCell ⟨b + 1, 3, none⟩ (.int .i64 n2)).setCell ⟨b + 1, 4, none⟩ (.bool f2)).setCell ⟨b + 1, 5, none⟩ v2).cell? ⟨b, 0, none⟩ = some (.int .i64 k) ∧ ((((((((((((w.setCell ⟨b, 0, none⟩ (.int .i64 k)).setCell ⟨b, 1, none⟩ (.int .i64 i1)).setCell ⟨b, 2, none⟩ (.int .i64 cc1)).setCell ⟨b, 3, none⟩ (.int .i64 n1)).setCell ⟨b, 4, none⟩ (.bool f1)).setCell ⟨b, 5, none⟩ v1).setCell ⟨b + 1, 0, none⟩ (.int .i64 k')).setCell ⟨b + 1, 1, none⟩ (.int .i64 i2)).setCell ⟨b + 1, 2, none⟩ (.int .i64 cc2)).setCell ⟨b + 1, 3, none⟩ (.int .i64 n2)).setCell ⟨b + 1, 4, none⟩ (.bool f2)).setCell ⟨b + 1, 5, none⟩ v2).cell? ⟨b, 1, none⟩ = some (.int .i64 i1) ∧ ((((((((((((w.setCell ⟨b, 0, none⟩ (.int .i64 k)).setCell ⟨b, 1, none⟩ (.int .i64 i1)).setCell ⟨b, 2, none⟩ (.int .i64 cc1)).setCell ⟨b, 3, none⟩ (.int .i64 n1)).setCell ⟨b, 4, none⟩ (.bool f1)).setCell ⟨b, 5, none⟩ v1).setCell ⟨b + 1, 0, none⟩ (.int .i64 k')).setCell ⟨b + 1, 1, none⟩ (.int .i64 i2)).setCell ⟨b + 1, 2, none⟩ (.int .i64 cc2)).setCell ⟨b + 1, 3, none⟩ (.int .i64 n2)).setCell ⟨b + 1, 4, none⟩ (.bool f2)).setCell ⟨b + 1, 5, none⟩ v2).cell? ⟨b, 2, none⟩ = some (.int .i64 cc1) ∧ ((((((((((((w.setCell ⟨b, 0, none⟩ (.int .i64 k)).setCell ⟨b, 1, none⟩ (.int .i64 i1)).setCell ⟨b, 2, none⟩ (.int .i64 cc1)).setCell ⟨b, 3, none⟩ (.int .i64 n1)).setCell ⟨b, 4, none⟩ (.bool f1)).setCell ⟨b, 5, none⟩ v1).setCell ⟨b + 1, 0, none⟩ (.int .i64 k')).setCell ⟨b + 1, 1, none⟩ (.int .i64 i2)).setCell ⟨b + 1, 2, none⟩ (.int .i64 cc2)).setCell ⟨b + 1, 3, none⟩ (.int .i64 n2)).setCell ⟨b + 1, 4, none⟩ (.bool f2)).setCell ⟨b + 1, 5, none⟩ v2).cell? ⟨b, 3, none⟩ = some (.int .i64 n1) ∧ ((((((((((((w.setCell ⟨b, 0, none⟩ (.int .i64 k)).setCell ⟨b, 1, none⟩ (.int .i64 i1)).setCell ⟨b, 2, none⟩ (.int .i64 cc1)).setCell ⟨b, 3, none⟩ (.int .i64 n1)).setCell ⟨b, 4, none⟩ (.bool f1)).setCell ⟨b, 5, none⟩ v1).setCell ⟨b + 1, 0, none⟩ (.int .i64 k')).setCell ⟨b + 1, 1, none⟩ (.int .i64 i2)).setCell ⟨b + 1, 2, none⟩ (.int .i64 cc2)).setCell ⟨b + 1, 3, none⟩ (.int .i64 n2)).setCell ⟨b + 1, 4, none⟩ (.bool f2)).setCell ⟨b + 1, 5, none⟩ v2).cell? ⟨b, 4, none⟩ = some (.bool f1) ∧ ((((((((((((w.setCell ⟨b, 0, none⟩ (.int .i64 k)).setCell ⟨b, 1, none⟩ (.int .i64 i1)).setCell ⟨b, 2, none⟩ (.int .i64 cc1)).setCell ⟨b, 3, none⟩ (.int .i64 n1)).setCell ⟨b, 4, none⟩ (.bool f1)).setCell ⟨b, 5, none⟩ v1).setCell ⟨b + 1, 0, none⟩ (.int .i64 k')).setCell ⟨b + 1, 1, none⟩ (.int .i64 i2)).setCell ⟨b + 1, 2, none⟩ (.int .i64 cc2)).setCell ⟨b + 1, 3, none⟩ (.int .i64 n2)).setCell ⟨b + 1, 4, none⟩ (.bool f2)).setCell ⟨b + 1, 5, none⟩ v2).cell? ⟨b, 5, none⟩ = some v1 ∧ ((((((((((((w.setCell ⟨b, 0, none⟩ (.int .i64 k)).setCell ⟨b, 1, none⟩ (.int .i64 i1)).setCell ⟨b, 2, none⟩ (.int .i64 cc1)).setCell ⟨b, 3, none⟩ (.int .i64 n1)).setCell ⟨b, 4, none⟩ (.bool f1)).setCell ⟨b, 5, none⟩ v1).setCell ⟨b + 1, 0, none⟩ (.int .i64 k')).setCell ⟨b + 1, 1, none⟩ (.int .i64 i2)).setCell ⟨b + 1, 2, none⟩ (.int .i64 cc2)).setCell ⟨b + 1, 3, none⟩ (.int .i64 n2)).setCell ⟨b + 1, 4, none⟩ (.bool f2)).setCell ⟨b + 1, 5, none⟩ v2).cell? ⟨b + 1, 0, none⟩ = some (.int .i64 k') ∧ ((((((((((((w.setCell ⟨b, 0, none⟩ (.int .i64 k)).setCell ⟨b, 1, none⟩ (.int .i64 i1)).setCell ⟨b, 2, none⟩ (.int .i64 cc1)).setCell ⟨b, 3, none⟩ (.int .i64 n1)).setCell ⟨b, 4, none⟩ (.bool f1)).setCell ⟨b, 5, none⟩ v1).setCell ⟨b + 1, 0, none⟩ (.int .i64 k')).setCell ⟨b + 1, 1, none⟩ (.int .i64 i2)).setCell ⟨b + 1, 2, none⟩ (.int .i64 cc2)).setCell ⟨b + 1, 3, none⟩ (.int .i64 n2)).setCell ⟨b + 1, 4, none⟩ (.bool f2)).setCell ⟨b + 1, 5, none⟩ v2).cell? ⟨b + 1, 1, none⟩ = some (.int .i64 i2) ∧ ((((((((((((w.setCell ⟨b, 0, none⟩ (.int .i64 k)).setCell ⟨b, 1, none⟩ (.int .i64 i1)).setCell ⟨b, 2, none⟩ (.int .i64 cc1)).setCell ⟨b, 3, none⟩ (.int .i64 n1)).setCell ⟨b, 4, none⟩ (.bool f1)).setCell ⟨b, 5, none⟩ v1).setCell ⟨b + 1, 0, none⟩ (.int .i64 k')).setCell ⟨b + 1, 1, none⟩ (.int .i64 i2)).setCell ⟨b + 1, 2, none⟩ (.int .i64 cc2)).setCell ⟨b + 1, 3, none⟩ (.int .i64 n2)).setCell ⟨b + 1, 4, none⟩ (.bool f2)).setCell ⟨b + 1, 5, none⟩ v2).cell? ⟨b + 1, 2, none⟩ = some (.int .i64 cc2) ∧ ((((((((((((w.setCell ⟨b, 0, none⟩ (.int .i64 k)).setCell ⟨b, 1, none⟩ (.int .i64 i1)).setCell ⟨b, 2, none⟩ (.int .i64 cc1)).setCell ⟨b, 3, none⟩ (.int .i64 n1)).setCell ⟨b, 4, none⟩ (.bool f1)).setCell ⟨b, 5, none⟩ v1).setCell ⟨b + 1, 0, none⟩ (.int .i64 k')).setCell ⟨b + 1, 1, none⟩ (.int .i64 i2)).setCell ⟨b + 1, 2, none⟩ (.int .i64 cc2)).setCell ⟨b + 1, 3, none⟩ (.int .i64 n2)).setCell ⟨b + 1, 4, none⟩ (.bool f2)).setCell ⟨b + 1, 5, none⟩ v2).cell? ⟨b + 1, 3, none⟩ = some (.int .i64 n2) ∧ ((((((((((((w.setCell ⟨b, 0, none⟩ (.int .i64 k)).setCell ⟨b, 1, none⟩ (.int .i64 i1)).setCell ⟨b, 2, none⟩ (.int .i64 cc1)).setCell ⟨b, 3, none⟩ (.int .i64 n1)).setCell ⟨b, 4, none⟩ (.bool f1)).setCell ⟨b, 5, none⟩ v1).setCell ⟨b + 1, 0, none⟩ (.int .i64 k')).setCell ⟨b + 1, 1, none⟩ (.int .i64 i2)).setCell ⟨b + 1, 2, none⟩ (.int .i64 cc2)).setCell ⟨b + 1, 3, none⟩ (.int .i64 n2)).setCell ⟨b + 1, 4, none⟩ (.bool f2)).setCell ⟨b + 1, 5, none⟩ v2).cell? ⟨b + 1, 4, none⟩ = some (.bool f2) ∧ ((((((((((((w.setCell ⟨b, 0, none⟩ (.int .i64 k)).setCell ⟨b, 1, none⟩ (.int .i64 i1)).setCell ⟨b, 2, none⟩ (.int .i64 cc1)).setCell ⟨b, 3, none⟩ (.int .i64 n1)).setCell ⟨b, 4, none⟩ (.bool f1)).setCell ⟨b, 5, none⟩ v1).setCell ⟨b + 1, 0, none⟩ (.int .i64 k')).setCell ⟨b + 1, 1, none⟩ (.int .i64 i2)).setCell ⟨b + 1, 2, none⟩ (.int .i64 cc2)).setCell ⟨b + 1, 3, none⟩ (.int .i64 n2)).setCell ⟨b + 1, 4, none⟩ (.bool f2)).setCell ⟨b + 1, 5, none⟩ v2).cell? ⟨b + 1, 5, none⟩ = some v2 := by
  refine ⟨?_, ?_, ?_, ?_, ?_, ?_, ?_, ?_, ?_, ?_, ?_, ?_⟩
  all_goals go_simp
set_option maxHeartbeats 4000000 in
set_option maxRecDepth 100000 in
theorem opSame_any (k i c n : Int) (f : Bool) (a : Option Addr) (l cp : Nat) (zs : List Int) (k' i' c' n' : Int) (f' : Bool) (a' : Option Addr) (l' cp' : Nat) (zs' : List Int) (w : World) (hx : zs.length * 8 ≤ 140737488351232) (hy : zs'.length * 8 ≤ 140737488351232) (h : IntsAt w (.slice a l cp) zs) (h' : IntsAt w (.slice a' l' cp') zs') :
    Calls Tryd.prog 40 #[opV k i c n f (.slice a l cp), opV k' i' c' n' f' (.slice a' l' cp')] w fun e w' => e = .returned (.bool (sameOp k i c n f zs k' i' c' n' f' zs')) ∧ Below w.heap.size w w' := by
  have hx' : (pZ k zs).length * 8 ≤ 140737488351232 := by unfold pZ; split <;> first | omega | simp
  have hy' : (pZ k' zs').length * 8 ≤ 140737488351232 := by unfold pZ; split <;> first | omega | simp
  have R1 := plain_any k i c n f (.slice a l cp) zs
  have R2 := plain_any k' i' c' n' f' (.slice a' l' cp') zs'
  unfold sameOp
  generalize pI k i = i1 at *
  generalize pC k c = cc1 at *
  generalize pN k n = n1 at *
  generalize pF k f = f1 at *
  generalize pI k' i' = i2 at *
  generalize pC k' c' = cc2 at *
  generalize pN k' n' = n2 at *
  generalize pF k' f' = f2 at *
  generalize pZ k zs = z1 at *
  generalize pZ k' zs' = z2 at *
  generalize hres : eqOp k i1 cc1 n1 f1 z1 k' i2 cc2 n2 f2 z2 = res
  have HE := Lib.hid hres; clear hres
  have HR1 := Lib.hid R1; clear R1
  have HR2 := Lib.hid R2; clear R2
  go_enter Tryd.func40, Tryd.ntmps40
  go_wp2
  obtain ⟨w0, hw0⟩ : ∃ w0, w0 = two w #[.int .i64 k, .int .i64 i, .int .i64 c, .int .i64 n, .bool f, .slice a l cp] #[.int .i64 k', .int .i64 i', .int .i64 c', .int .i64 n', .bool f', .slice a' l' cp'] 41 := ⟨_, rfl⟩
  change Code.wp _ _ _ _ (two w #[.int .i64 k, .int .i64 i, .int .i64 c, .int .i64 n, .bool f, .slice a l cp] #[.int .i64 k', .int .i64 i', .int .i64 c', .int .i64 n', .bool f', .slice a' l' cp'] 41)
  rw [← hw0]
  have p0 : w0.cell? ⟨w.heap.size, 0, none⟩ = some (.int .i64 k) := by rw [hw0]; exact two_1 ..
  have p1 : w0.cell? ⟨w.heap.size, 1, none⟩ = some (.int .i64 i) := by rw [hw0]; exact two_1 ..
  have p2 : w0.cell? ⟨w.heap.size, 2, none⟩ = some (.int .i64 c) := by rw [hw0]; exact two_1 ..
  have p3 : w0.cell? ⟨w.heap.size, 3, none⟩ = some (.int .i64 n) := by rw [hw0]; exact two_1 ..
  have p4 : w0.cell? ⟨w.heap.size, 4, none⟩ = some (.bool f) := by rw [hw0]; exact two_1 ..
  have p5 : w0.cell? ⟨w.heap.size, 5, none⟩ = some (.slice a l cp) := by rw [hw0]; exact two_1 ..
  have q0 : w0.cell? ⟨w.heap.size + 1, 0, none⟩ = some (.int .i64 k') := by rw [hw0]; exact two_2 ..
  have q1 : w0.cell? ⟨w.heap.size + 1, 1, none⟩ = some (.int .i64 i') := by rw [hw0]; exact two_2 ..
  have q2 : w0.cell? ⟨w.heap.size + 1, 2, none⟩ = some (.int .i64 c') := by rw [hw0]; exact two_2 ..
  have q3 : w0.cell? ⟨w.heap.size + 1, 3, none⟩ = some (.int .i64 n') := by rw [hw0]; exact two_2 ..
  have q4 : w0.cell? ⟨w.heap.size + 1, 4, none⟩ = some (.bool f') := by rw [hw0]; exact two_2 ..
  have q5 : w0.cell? ⟨w.heap.size + 1, 5, none⟩ = some (.slice a' l' cp') := by rw [hw0]; exact two_2 ..
  have hs : w0.heap.size = w.heap.size + 1 + 1 := by rw [hw0]; simp [two]
  have hB : Below w.heap.size w w0 := by rw [hw0]; exact ((Below.refl _ w).alloc (Nat.le_refl _) _).alloc (by simp) _
  have hf0 : ∀ j, w0.frozen? ⟨w.heap.size, j, none⟩ = false := by intro j; rw [hw0]; exact two_f1 ..
  have hf1 : ∀ j, w0.frozen? ⟨w.heap.size + 1, j, none⟩ = false := by intro j; rw [hw0]; exact two_f2 ..
  have hlt : w.heap.size < w0.heap.size := by omega
  have hlt1 : w.heap.size + 1 < w0.heap.size := by omega
  clear hw0
  have HS := Lib.hid hs; clear hs
  have HF0 := Lib.hid hf0; clear hf0
  have HF1 := Lib.hid hf1; clear hf1
  have hB0 : Below w0.heap.size w0 w0.drew := (Below.refl _ w0).drew
  have hI := h.below (hB.trans (hB0.mono hB.size))
  refine wp_mono (Q := fun e x w' => e = .normal ∧ ∃ a1 c1 a2 c2, x = { tmps := #[opV k i c n f (.slice a l cp), opV k' i' c' n' f' (.slice a' l' cp'), .pointer (some ⟨w.heap.size, 0, none⟩), .pointer (some ⟨w.heap.size + 1, 0, none⟩), .bool false, opV k i c n f (.slice a l cp), opV k i1 cc1 n1 f1 (.slice a1 z1.length c1), opV k' i' c' n' f' (.slice a' l' cp'), opV k' i2 cc2 n2 f2 (.slice a2 z2.length c2), undef, undef, undef, undef, undef, undef, undef, undef, undef, undef, undef, undef, undef, undef, undef, undef, undef, undef, undef, undef, undef, undef, undef, undef, undef, undef, undef, undef, undef, undef, undef, undef, undef, undef, undef, undef, undef, undef, undef, undef], defers := [] } ∧
    IntsAt w' (.slice a1 z1.length c1) z1 ∧ IntsAt w' (.slice a2 z2.length c2) z2 ∧ Below w.heap.size w w' ∧
    w'.cell? ⟨w.heap.size, 0, none⟩ = some (.int .i64 k) ∧ w'.cell? ⟨w.heap.size, 1, none⟩ = some (.int .i64 i1) ∧ w'.cell? ⟨w.heap.size, 2, none⟩ = some (.int .i64 cc1) ∧ w'.cell? ⟨w.heap.size, 3, none⟩ = some (.int .i64 n1) ∧ w'.cell? ⟨w.heap.size, 4, none⟩ = some (.bool f1) ∧ w'.cell? ⟨w.heap.size, 5, none⟩ = some (.slice a1 z1.length c1) ∧
    w'.cell? ⟨w.heap.size + 1, 0, none⟩ = some (.int .i64 k') ∧ w'.cell? ⟨w.heap.size + 1, 1, none⟩ = some (.int .i64 i2) ∧ w'.cell? ⟨w.heap.size + 1, 2, none⟩ = some (.int .i64 cc2) ∧ w'.cell? ⟨w.heap.size + 1, 3, none⟩ = some (.int .i64 n2) ∧ w'.cell? ⟨w.heap.size + 1, 4, none⟩ = some (.bool f2) ∧ w'.cell? ⟨w.heap.size + 1, 5, none⟩ = some (.slice a2 z2.length c2)) ?region ?rest
  case region =>
    go_region_with (first
      | (go_at_call 36; ((with_reducible refine (HR1.out _ hx hI).mono ?_)); rintro e w1 ⟨a1, c1, rfl, ho1, hb⟩; have hb1 : Below w0.heap.size w0 w1 := hB0.trans hb; have hI' := h'.below (hB.trans (hb1.mono hB.size)); obtain ⟨hc1, hfz1⟩ := bcell hb1; clear hb)
      | (go_at_call 36; ((with_reducible refine (HR2.out _ hy hI').mono ?_)); rintro e w2 ⟨a2, c2, rfl, ho2, hb⟩; have hb2 : Below w0.heap.size w0 w2 := hb1.trans (hb.mono hb1.size); have ho1' := ownsRow_below ho1 hb; have r0 : w2.cell? ⟨w.heap.size, 0, none⟩ = some (.int .i64 k) := (hb2.cell (p := ⟨w.heap.size, 0, none⟩) hlt).trans p0; have r1 : w2.cell? ⟨w.heap.size, 1, none⟩ = some (.int .i64 i) := (hb2.cell (p := ⟨w.heap.size, 1, none⟩) hlt).trans p1; have r2 : w2.cell? ⟨w.heap.size, 2, none⟩ = some (.int .i64 c) := (hb2.cell (p := ⟨w.heap.size, 2, none⟩) hlt).trans p2; have r3 : w2.cell? ⟨w.heap.size, 3, none⟩ = some (.int .i64 n) := (hb2.cell (p := ⟨w.heap.size, 3, none⟩) hlt).trans p3; have r4 : w2.cell? ⟨w.heap.size, 4, none⟩ = some (.bool f) := (hb2.cell (p := ⟨w.heap.size, 4, none⟩) hlt).trans p4; have r5 : w2.cell? ⟨w.heap.size, 5, none⟩ = some (.slice a l cp) := (hb2.cell (p := ⟨w.heap.size, 5, none⟩) hlt).trans p5; have s0 : w2.cell? ⟨w.heap.size + 1, 0, none⟩ = some (.int .i64 k') := (hb2.cell (p := ⟨w.heap.size + 1, 0, none⟩) hlt1).trans q0; have s1 : w2.cell? ⟨w.heap.size + 1, 1, none⟩ = some (.int .i64 i') := (hb2.cell (p := ⟨w.heap.size + 1, 1, none⟩) hlt1).trans q1; have s2 : w2.cell? ⟨w.heap.size + 1, 2, none⟩ = some (.int .i64 c') := (hb2.cell (p := ⟨w.heap.size + 1, 2, none⟩) hlt1).trans q2; have s3 : w2.cell? ⟨w.heap.size + 1, 3, none⟩ = some (.int .i64 n') := (hb2.cell (p := ⟨w.heap.size + 1, 3, none⟩) hlt1).trans q3; have s4 : w2.cell? ⟨w.heap.size + 1, 4, none⟩ = some (.bool f') := (hb2.cell (p := ⟨w.heap.size + 1, 4, none⟩) hlt1).trans q4; have s5 : w2.cell? ⟨w.heap.size + 1, 5, none⟩ = some (.slice a' l' cp') := (hb2.cell (p := ⟨w.heap.size + 1, 5, none⟩) hlt1).trans q5; have fr0 : ∀ j, w2.frozen? ⟨w.heap.size, j, none⟩ = false := fun j => (hb2.frozen (p := ⟨w.heap.size, j, none⟩) hlt).trans (HF0.out j); have fr1 : ∀ j, w2.frozen? ⟨w.heap.size + 1, j, none⟩ = false := fun j => (hb2.frozen (p := ⟨w.heap.size + 1, j, none⟩) hlt1).trans (HF1.out j); clear hc1 hfz1))
    all_goals
      have hbe := hB.trans (hb2.mono hB.size)
      have hlow := ownsRow_low ho2 hb1.size
      have hlow1 := ownsRow_low (base' := w0.heap.size) ho1' (Nat.le_refl _)
      refine ⟨rfl, a1, c1, a2, c2, rfl, ints_of_row (base := w0.heap.size) (E := 2) ?_, ints_of_row (base := w0.heap.size) (E := 2) ?_, ?_, ?_⟩
      · repeat (first | (with_reducible exact hlow1) | with_reducible refine ownsRow_setCell_below ?_ (by first | exact hlt | exact hlt1) _)
      · repeat (first | (with_reducible exact hlow) | with_reducible refine ownsRow_setCell_below ?_ (by first | exact hlt | exact hlt1) _)
      · repeat (first | (with_reducible exact hbe) | with_reducible refine Below.setCell ?_ (by first | exact Nat.le_refl _ | exact Nat.le_succ _) _)
      exact sameStore w2 w.heap.size k i1 cc1 n1 f1 _ k' i2 cc2 n2 f2 _ _ _ _ _ _ _ _ _ _ _ _ _ r0 r1 r2 r3 r4 r5 s0 s1 s2 s3 s4 s5
  case rest =>
    clear p0 p1 p2 p3 p4 p5 q0 q1 q2 q3 q4 q5 hI HR1 HR2 hB hB0 HS HF0 HF1 hlt hlt1 w0
    rintro e x w' ⟨rfl, a1, c1, a2, c2, rfl, hi1, hi2, hb, g0, g1, g2, g3, g4, g5, g6, g7, g8, g9, g10, g11⟩
    cases h0 : k == k'
    · go_wp2
      go_ret
      have hr : res = false := HE.out.symm.trans (by unfold eqOp; simp [h0])
      subst hr; exact ⟨rfl, hb⟩
    cases h1 : i1 == i2
    · go_wp2
      go_ret
      have hr : res = false := HE.out.symm.trans (by unfold eqOp; simp [h0, h1])
      subst hr; exact ⟨rfl, hb⟩
    cases h2 : cc1 == cc2
    · go_wp2
      go_ret
      have hr : res = false := HE.out.symm.trans (by unfold eqOp; simp [h0, h1, h2])
      subst hr; exact ⟨rfl, hb⟩
    cases h3 : n1 == n2
    · go_wp2
      go_ret
      have hr : res = false := HE.out.symm.trans (by unfold eqOp; simp [h0, h1, h2, h3])
      subst hr; exact ⟨rfl, hb⟩
    cases h4 : f1 == f2
    · go_wp2
      go_ret
      have hr : res = false := HE.out.symm.trans (by unfold eqOp; simp [h0, h1, h2, h3, h4])
      subst hr; exact ⟨rfl, hb⟩
    have hr : res = (z1 == z2) := HE.out.symm.trans (by unfold eqOp; simp [h0, h1, h2, h3, h4])
    subst hr
    have hv := vecSame_any _ _ z1 z2 w' hx' hy' hi1 hi2
    have HV := Lib.hid hv; clear hv
    go_wp2_with fail
    refine HV.out.mono ?_
    rintro e w1 ⟨rfl, B1⟩
    go_wp2
    go_ret
    exact ⟨rfl, hb.trans (B1.mono hb.size)⟩
end Go.Proofs.YtcegipkhmibdeaaDoor
/- Rows of pods that the call made; append of one pod. -/
namespace Go.Proofs.YtcegipkhmibdeaaDoor
set_option linter.all false
open Go.RowKit

/-- Numbers whose block has a property. -/
def IntsIn (X : Nat → Prop) (w : World) (v : Value) (zs : List Int) : Prop :=
  ∃ a cap, v = .slice a zs.length cap ∧ (zs = [] ∨ ∃ b off, a = some ⟨b, off, none⟩ ∧ X b ∧ b < w.heap.size ∧ ∀ j, j < zs.length → w.cell? ⟨b, off + j, none⟩ = some (.int .i64 (zs.getD j 0)))
theorem IntsIn.ints {X : Nat → Prop} {w : World} {v : Value} {zs : List Int} (h : IntsIn X w v zs) : IntsAt w v zs := by
  obtain ⟨a, cap, rfl, h | ⟨b, off, rfl, _, hlt, hc⟩⟩ := h
  · exact ⟨a, cap, rfl, .inl h⟩
  · exact ⟨_, cap, rfl, .inr ⟨b, off, rfl, hlt, hc⟩⟩
/-- A property, and below a mark. -/
abbrev Lo (Y : Nat → Prop) (B : Nat) : Nat → Prop := fun b => Y b ∧ b < B
theorem IntsIn.within {Y : Nat → Prop} {w : World} {v : Value} {zs : List Int} (h : IntsIn Y w v zs) : IntsIn (Lo Y w.heap.size) w v zs := by
  obtain ⟨a, cap, rfl, h | ⟨b, off, rfl, hy, hlt, hc⟩⟩ := h
  · exact ⟨a, cap, rfl, .inl h⟩
  · exact ⟨_, cap, rfl, .inr ⟨b, off, rfl, ⟨hy, hlt⟩, hlt, hc⟩⟩
theorem IntsIn.imp {X Y : Nat → Prop} {w : World} {v : Value} {zs : List Int} (h : IntsIn X w v zs) (hxy : ∀ b, b < w.heap.size → X b → Y b) : IntsIn Y w v zs := by
  obtain ⟨a, cap, rfl, h | ⟨b, off, rfl, hy, hlt, hc⟩⟩ := h
  · exact ⟨a, cap, rfl, .inl h⟩
  · exact ⟨_, cap, rfl, .inr ⟨b, off, rfl, hxy b hlt hy, hlt, hc⟩⟩
theorem IntsAt.any {w : World} {v : Value} {zs : List Int} (h : IntsAt w v zs) : IntsIn (fun _ => True) w v zs := by
  obtain ⟨a, cap, rfl, h | ⟨b, off, rfl, hlt, hc⟩⟩ := h
  · exact ⟨a, cap, rfl, .inl h⟩
  · exact ⟨_, cap, rfl, .inr ⟨b, off, rfl, trivial, hlt, hc⟩⟩
/-- What lies below a mark is kept. -/
theorem IntsIn.below {Y : Nat → Prop} {B n : Nat} {w w' : World} {v : Value} {zs : List Int} (h : IntsIn (Lo Y B) w v zs) (hb : Below n w w') (hB : B ≤ n) : IntsIn (Lo Y B) w' v zs := by
  obtain ⟨a, cap, rfl, h | ⟨b, off, rfl, hX, hlt, hc⟩⟩ := h
  · exact ⟨a, cap, rfl, .inl h⟩
  · exact ⟨_, cap, rfl, .inr ⟨b, off, rfl, hX, Nat.lt_of_lt_of_le hlt hb.size, fun j hj => keepc hb (Nat.lt_of_lt_of_le hX.2 hB) (hc j hj)⟩⟩

/-- The cells of one pod, of many pods. -/
def cells9 (p : Pod) (rv : Value) : List Value := [.int .i64 p.id, .int .i64 p.prio, .bool p.pre, .int .i64 p.grace, rv, .int .i64 p.arr, .int .i64 p.ph, .int .i64 p.node, .int .i64 p.dead]
def podRow : List Pod → List Value → List Value
  | p :: ps, rv :: rvs => cells9 p rv ++ podRow ps rvs
  | _, _ => []
theorem podRow_snoc : ∀ (ps : List Pod) (rvs : List Value) (p : Pod) (rv : Value), rvs.length = ps.length → podRow (ps ++ [p]) (rvs ++ [rv]) = podRow ps rvs ++ cells9 p rv
  | [], [], p, rv, _ => by simp [podRow]
  | [], _ :: _, _, _, h => by simp at h
  | _ :: _, [], _, _, h => by simp at h
  | q :: ps, r :: rvs, p, rv, h => by
    have := podRow_snoc ps rvs p rv (by simpa using h)
    simp only [List.cons_append, podRow, this, List.append_assoc]
theorem podRow_length : ∀ (ps : List Pod) (rvs : List Value), rvs.length = ps.length → (podRow ps rvs).length = ps.length * 9
  | [], [], _ => rfl
  | [], _ :: _, h => by simp at h
  | _ :: _, [], h => by simp at h
  | q :: ps, r :: rvs, h => by
    have := podRow_length ps rvs (by simpa using h)
    simp only [podRow, List.length_append, this, cells9, List.length_cons, List.length_nil]
    omega
theorem podRow_get : ∀ (ps : List Pod) (rvs : List Value) (j f : Nat), rvs.length = ps.length → j < ps.length → f < 9 → (podRow ps rvs)[j * 9 + f]? = (cells9 (podAt ps j) (rvs.getD j undef))[f]?
  | [], _, j, f, _, hj, _ => by simp at hj
  | _ :: _, [], _, _, h, _, _ => by simp at h
  | q :: ps, r :: rvs, 0, f, h, hj, hf => by
    simp only [podRow, Nat.zero_mul, Nat.zero_add]
    rw [List.getElem?_append_left (by simp only [cells9, List.length_cons, List.length_nil]; omega)]
    rfl
  | q :: ps, r :: rvs, j + 1, f, h, hj, hf => by
    have ih := podRow_get ps rvs j f (by simpa using h) (by simpa using hj) hf
    simp only [podRow]
    rw [List.getElem?_append_right (by simp only [cells9, List.length_cons, List.length_nil]; omega)]
    rw [show (j + 1) * 9 + f - (cells9 q r).length = j * 9 + f by simp only [cells9, List.length_cons, List.length_nil]; omega, ih]
    rfl
theorem cells9_of {w : World} {g : Nat} {p : Pod} {rv : Value} (h0 : w.cell? ⟨g, 0, none⟩ = some (.int .i64 p.id)) (h1 : w.cell? ⟨g, 1, none⟩ = some (.int .i64 p.prio)) (h2 : w.cell? ⟨g, 2, none⟩ = some (.bool p.pre)) (h3 : w.cell? ⟨g, 3, none⟩ = some (.int .i64 p.grace)) (h4 : w.cell? ⟨g, 4, none⟩ = some rv)
    (h5 : w.cell? ⟨g, 5, none⟩ = some (.int .i64 p.arr)) (h6 : w.cell? ⟨g, 6, none⟩ = some (.int .i64 p.ph)) (h7 : w.cell? ⟨g, 7, none⟩ = some (.int .i64 p.node)) (h8 : w.cell? ⟨g, 8, none⟩ = some (.int .i64 p.dead)) :
    ∀ j u, (cells9 p rv)[j]? = some u → w.cell? ⟨g, j, none⟩ = some u
  | 0, _, h => by cases h; exact h0
  | 1, _, h => by cases h; exact h1
  | 2, _, h => by cases h; exact h2
  | 3, _, h => by cases h; exact h3
  | 4, _, h => by cases h; exact h4
  | 5, _, h => by cases h; exact h5
  | 6, _, h => by cases h; exact h6
  | 7, _, h => by cases h; exact h7
  | 8, _, h => by cases h; exact h8
  | _ + 9, _, h => by cases h
theorem infoPod : (Tryd.prog.info? 65).map (fun i => (i.zero, i.size, i.bytes)) = some (some (.agg #[.int .i64 0, .int .i64 0, .bool false, .int .i64 0, .slice none 0 0, .int .i64 0, .int .i64 0, .int .i64 0, .int .i64 0]), 9, 88) := by kernel_rfl
/-- Pods in a row of the call's own. -/
def OwnPods (X : Nat → Prop) (base : Nat) (w : World) (v : Value) (ps : List Pod) : Prop :=
  ∃ rvs : List Value, rvs.length = ps.length ∧ w.ownsRow base 65 9 v ps.length (podRow ps rvs) ∧ ∀ j, j < ps.length → IntsIn X w (rvs.getD j undef) (podAt ps j).req
theorem OwnPods.nil (X : Nat → Prop) (base : Nat) (w : World) : OwnPods X base w (.slice none 0 0) [] := ⟨[], rfl, World.ownsRow_nil _ _ _ _, fun j hj => by simp at hj⟩
theorem OwnPods.shape {X : Nat → Prop} {base : Nat} {w : World} {v : Value} {ps : List Pod} (h : OwnPods X base w v ps) : ∃ a cap, v = .slice a ps.length cap := by
  obtain ⟨rvs, _, h, _⟩ := h; exact ownsRow_shape h
/-- A slice of pods whose block, and whose requests' blocks, have a property. -/
def PodsX (X : Nat → Prop) (w : World) (v : Value) (ps : List Pod) : Prop :=
  ∃ a cap, v = .slice a ps.length cap ∧ (ps = [] ∨ ∃ b off, a = some ⟨b, off, none⟩ ∧ X b ∧ b < w.heap.size ∧ ∀ j, j < ps.length → ∃ rv, PodCells w b (off + j * 9) (podAt ps j) rv ∧ IntsIn X w rv (podAt ps j).req)
theorem PodsX.pods {X : Nat → Prop} {w : World} {v : Value} {ps : List Pod} (h : PodsX X w v ps) : PodsAt w v ps := by
  obtain ⟨a, cap, rfl, h | ⟨b, off, rfl, _, hlt, hc⟩⟩ := h
  · exact ⟨a, cap, rfl, .inl h⟩
  · exact ⟨_, cap, rfl, .inr ⟨b, off, rfl, hlt, fun j hj => by obtain ⟨rv, h1, h2⟩ := hc j hj; exact ⟨rv, h1, h2.ints⟩⟩⟩
theorem PodsX.imp {X Y : Nat → Prop} {w : World} {v : Value} {ps : List Pod} (h : PodsX X w v ps) (hxy : ∀ b, b < w.heap.size → X b → Y b) : PodsX Y w v ps := by
  obtain ⟨a, cap, rfl, h | ⟨b, off, rfl, hx, hlt, hc⟩⟩ := h
  · exact ⟨a, cap, rfl, .inl h⟩
  · exact ⟨_, cap, rfl, .inr ⟨b, off, rfl, hxy b hlt hx, hlt, fun j hj => by obtain ⟨rv, h1, h2⟩ := hc j hj; exact ⟨rv, h1, h2.imp hxy⟩⟩⟩
theorem PodsX.within {Y : Nat → Prop} {w : World} {v : Value} {ps : List Pod} (h : PodsX Y w v ps) : PodsX (Lo Y w.heap.size) w v ps := h.imp fun b hb hy => ⟨hy, hb⟩
theorem PodsX.below {Y : Nat → Prop} {B n : Nat} {w w' : World} {v : Value} {ps : List Pod} (h : PodsX (Lo Y B) w v ps) (hb : Below n w w') (hB : B ≤ n) : PodsX (Lo Y B) w' v ps := by
  obtain ⟨a, cap, rfl, h | ⟨b, off, rfl, hbB, hlt, hc⟩⟩ := h
  · exact ⟨a, cap, rfl, .inl h⟩
  · exact ⟨_, cap, rfl, .inr ⟨b, off, rfl, hbB, Nat.lt_of_lt_of_le hlt hb.size, fun j hj => by obtain ⟨rv, h1, h2⟩ := hc j hj; exact ⟨rv, h1.below hb (by have := hbB.2; omega), h2.below hb hB⟩⟩⟩
theorem PodsAt.any {w : World} {v : Value} {ps : List Pod} (h : PodsAt w v ps) : PodsX (fun _ => True) w v ps := by
  obtain ⟨a, cap, rfl, h | ⟨b, off, rfl, hlt, hc⟩⟩ := h
  · exact ⟨a, cap, rfl, .inl h⟩
  · exact ⟨_, cap, rfl, .inr ⟨b, off, rfl, trivial, hlt, fun j hj => by obtain ⟨rv, h1, h2⟩ := hc j hj; exact ⟨rv, h1, h2.any⟩⟩⟩
theorem OwnPods.podsX {X : Nat → Prop} {base : Nat} {w : World} {v : Value} {ps : List Pod} (h : OwnPods X base w v ps) : PodsX (fun b => X b ∨ base ≤ b) w v ps := by
  obtain ⟨rvs, hl, h, hi⟩ := h
  rcases h.2 with ⟨rfl, h0⟩ | ⟨g, cap, cur, rfl, hb, hg, hn, hc, hs, ht⟩
  · exact ⟨_, _, by rw [h0], .inl (List.eq_nil_of_length_eq_zero h0)⟩
  · refine ⟨_, cap, rfl, .inr ⟨g, 0, rfl, .inr hb, (Array.getElem?_eq_some_iff.1 hg).1, fun j hj => ⟨rvs.getD j undef, ?_, (hi j hj).imp fun b _ hx => .inl hx⟩⟩⟩
    have key : ∀ f u, f < 9 → (cells9 (podAt ps j) (rvs.getD j undef))[f]? = some u → w.cell? ⟨g, 0 + j * 9 + f, none⟩ = some u := fun f u hf hu => by
      have h1 := h.cells (g := g) rfl (j * 9 + f) u (by rw [podRow_get ps rvs j f hl hj hf]; exact hu)
      rw [add_mk] at h1
      rw [Nat.add_assoc]
      exact h1
    exact ⟨key 0 _ (by omega) rfl, key 1 _ (by omega) rfl, key 2 _ (by omega) rfl, key 3 _ (by omega) rfl, key 4 _ (by omega) rfl, key 5 _ (by omega) rfl, key 6 _ (by omega) rfl, key 7 _ (by omega) rfl, key 8 _ (by omega) rfl⟩
theorem OwnPods.pods {X : Nat → Prop} {base : Nat} {w : World} {v : Value} {ps : List Pod} (h : OwnPods X base w v ps) : PodsAt w v ps := by
  obtain ⟨rvs, hl, h, hi⟩ := h
  rcases h.2 with ⟨rfl, h0⟩ | ⟨g, cap, cur, rfl, hb, hg, hn, hc, hs, ht⟩
  · exact ⟨_, _, by rw [h0], .inl (List.eq_nil_of_length_eq_zero h0)⟩
  · refine ⟨_, cap, rfl, .inr ⟨g, 0, rfl, (Array.getElem?_eq_some_iff.1 hg).1, fun j hj => ⟨rvs.getD j undef, ?_, (hi j hj).ints⟩⟩⟩
    have key : ∀ f u, f < 9 → (cells9 (podAt ps j) (rvs.getD j undef))[f]? = some u → w.cell? ⟨g, 0 + j * 9 + f, none⟩ = some u := fun f u hf hu => by
      have h1 := h.cells (g := g) rfl (j * 9 + f) u (by rw [podRow_get ps rvs j f hl hj hf]; exact hu)
      rw [add_mk] at h1
      rw [Nat.add_assoc]
      exact h1
    exact ⟨key 0 _ (by omega) rfl, key 1 _ (by omega) rfl, key 2 _ (by omega) rfl, key 3 _ (by omega) rfl, key 4 _ (by omega) rfl, key 5 _ (by omega) rfl, key 6 _ (by omega) rfl, key 7 _ (by omega) rfl, key 8 _ (by omega) rfl⟩
theorem IntsIn.kept {Y : Nat → Prop} {B : Nat} {w w' : World} {row : Option Nat} {v : Value} {zs : List Int} (h : IntsIn (Lo Y B) w v zs) (hg : w.grownBy w' row) (hr : ∀ k, row = some k → B ≤ k) : IntsIn (Lo Y B) w' v zs := by
  obtain ⟨a, cap, rfl, h | ⟨b, off, rfl, hX, hlt, hc⟩⟩ := h
  · exact ⟨a, cap, rfl, .inl h⟩
  · refine ⟨_, cap, rfl, .inr ⟨b, off, rfl, hX, Nat.lt_of_lt_of_le hlt hg.size, fun j hj => hg.cell (hc j hj) (fun e => ?_)⟩⟩
    have := hr b e.symm
    have := hX.2
    omega
/-- append of one pod, whose cells lie in a new block. -/
theorem wpList_append_pod {Y : Nat → Prop} {B : Nat} {w : World} {ops : Array Oper} {rest : List Oper} {o : Oper} {a : Act} {Q : Exit → Act → World → Prop} (hgd : o.guard = none) (s x : Operand)
    (ho : o.op = .call { callee := .builtin .append, args := #[s, x], argTypes := #[72, 72] }) (base : Nat)
    (v : Value) (ps : List Pod) (hs : a.eval s = v) (hown : OwnPods (Lo Y B) base w v ps) (g : Nat) (p : Pod) (rv : Value) (hx : a.eval x = .slice (some ⟨g, 0, none⟩) 1 1)
    (hcells : ∀ j u, (cells9 p rv)[j]? = some u → w.cell? ⟨g, j, none⟩ = some u) (hI : IntsIn (Lo Y B) w rv p.req) (hb : (ps.length + 1) * 88 ≤ 140737488351232) (hbase : base ≤ w.heap.size) (hB : B ≤ base)
    (h : ∀ v' w', OwnPods (Lo Y B) base w' v' (ps ++ [p]) → Below base w w' → wpList Tryd.prog ops Q rest (a.put o.dst v') w') : wpList Tryd.prog ops Q (o :: rest) a w := by
  obtain ⟨i0, hi, hz0, hz1, hz2⟩ := info_parts infoPod
  obtain ⟨rvs, hl, hrow, hri⟩ := hown
  obtain ⟨ar, cr, hrv, -⟩ := id hI
  refine wpList_append_own_at w hgd s x 72 ho base 65 i0 _ 9 88 Tryd.underlying72 hi hz0 hz1 hz2 rfl (by decide) v ps.length (podRow ps rvs) hs hrow ⟨g, 0, none⟩ 1 1 (cells9 p rv) hx rfl
    (fun j u hu => by rw [add_mk, Nat.zero_add]; exact hcells j u hu) ?_ (by unfold maxLen; omega) (by omega) hbase (fun v' w' h1 h2 _ _ => ?_)
  · intro u hu
    subst hrv
    simp only [cells9, List.mem_cons, List.not_mem_nil, or_false] at hu
    rcases hu with rfl | rfl | rfl | rfl | rfl | rfl | rfl | rfl | rfl <;> rfl
  · have hrowge : ∀ k, v.ownBlock = some k → base ≤ k := fun k hk => by
      rcases hrow.2 with ⟨rfl, _⟩ | ⟨g', cap, cur, rfl, hb', _⟩
      · simp [Value.ownBlock] at hk
      · simp [Value.ownBlock] at hk; omega
    refine h v' w' ⟨rvs ++ [rv], by simp [hl], ?_, fun j hj => ?_⟩ ((Below.refl _ _).grown h2 hbase hrowge)
    · rw [podRow_snoc ps rvs p rv hl, List.length_append]
      exact h1
    · have hr := fun k hk => Nat.le_trans hB (hrowge k hk)
      by_cases hjl : j < ps.length
      · have e1 : (rvs ++ [rv]).getD j undef = rvs.getD j undef := by
          rw [List.getD_eq_getElem?_getD, List.getD_eq_getElem?_getD, List.getElem?_append_left (by omega)]
        have e2 : podAt (ps ++ [p]) j = podAt ps j := by
          unfold podAt; rw [List.getD_eq_getElem?_getD, List.getD_eq_getElem?_getD, List.getElem?_append_left hjl]
        rw [e1, e2]
        exact (hri j hjl).kept h2 hr
      · have hje : j = ps.length := by simp at hj; omega
        subst hje
        have e1 : (rvs ++ [rv]).getD ps.length undef = rv := by
          rw [List.getD_eq_getElem?_getD, List.getElem?_append_right (by omega), hl]; simp
        have e2 : podAt (ps ++ [p]) ps.length = p := by
          unfold podAt; rw [List.getD_eq_getElem?_getD, List.getElem?_append_right (by omega)]; simp
        rw [e1, e2]
        exact hI.kept h2 hr
end Go.Proofs.YtcegipkhmibdeaaDoor
