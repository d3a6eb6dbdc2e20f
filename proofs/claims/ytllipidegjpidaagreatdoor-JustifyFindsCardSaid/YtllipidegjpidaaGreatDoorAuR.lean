/- Maps from int: what a look-up finds, what an update leaves. -/
import Derived.Test.YtllipidegjpidaaGreatDoorAuN
import Derived.MapKept
namespace Go.Proofs.YtllipidegjpidaaGreatDoor
set_option linter.all false
open Go.RowKit

/-- What a key has in a list of entries. -/
def assocI : List (Int × Value) → Int → Option Value
  | [], _ => none
  | (k, v) :: r, i => if i = k then some v else assocI r i
/-- The entries, with one set. -/
def setI : List (Int × Value) → Int → Value → List (Int × Value)
  | [], i, x => [(i, x)]
  | (k, v) :: r, i, x => if i = k then (k, x) :: r else (k, v) :: setI r i x
/-- A map that holds these entries. -/
def MapI (w : World) (bm : Nat) (kvs : List (Int × Value)) : Prop :=
  ∃ es clock, w.heap[bm]? = some (.map es clock) ∧ (es.toList.map (fun e => (e.key, e.val)) = kvs.map fun x => (Value.int .i64 x.1, x.2)) ∧ ∀ e ∈ es.toList, e.born < clock
theorem MapI.lt {w : World} {bm : Nat} {kvs : List (Int × Value)} (h : MapI w bm kvs) : bm < w.heap.size := by
  obtain ⟨es, c, hb, -⟩ := h
  exact (Array.getElem?_eq_some_iff.1 hb).1
theorem MapI.below {w w' : World} {bm : Nat} {kvs : List (Int × Value)} (h : MapI w bm kvs) (hb : Below w.heap.size w w') : MapI w' bm kvs := by
  have hl := h.lt
  obtain ⟨es, c, he, hm⟩ := h
  exact ⟨es, c, by rw [hb.block bm hl]; exact he, hm⟩
theorem MapI.new (w : World) : MapI (w.alloc (.map #[] 0)) w.heap.size [] := ⟨#[], 0, heap_alloc_new w _, rfl, by simp⟩
theorem findI_now {id : Int} : ∀ {kvs : List (Int × Value)} {es : List MapEntry} (i : Nat), es.map (fun e => (e.key, e.val)) = kvs.map (fun x => (Value.int .i64 x.1, x.2)) →
    (assocI kvs id = none ∧ Instr.findNow (.int .i64) (.int .i64 id) es i = some none ∧ setI kvs id = fun x => kvs ++ [(id, x)]) ∨
    (∃ k v, k < kvs.length ∧ assocI kvs id = some v ∧ Instr.findNow (.int .i64) (.int .i64 id) es i = some (some (i + k, v)) ∧ kvs[k]? = some (id, v) ∧ setI kvs id = fun x => kvs.set k (id, x))
  | [], [], i, _ => .inl ⟨rfl, rfl, rfl⟩
  | [], _ :: _, _, h => by simp at h
  | _ :: _, [], _, h => by simp at h
  | (k0, v0) :: kvs, e :: es, i, h => by
    simp only [List.map_cons, List.cons.injEq, Prod.mk.injEq] at h
    obtain ⟨⟨h1, h2⟩, h3⟩ := h
    unfold Instr.findNow
    rw [h1, h2]
    by_cases hk : id = k0
    · subst hk
      refine .inr ⟨0, v0, by simp, by simp [assocI], ?_, rfl, ?_⟩
      · simp [Instr.sameNow]
      · funext x; simp [setI]
    · have hq : (id == k0) = false := by simp; exact hk
      rcases findI_now (id := id) (i + 1) h3 with ⟨a1, a2, a3⟩ | ⟨k, v, a0, a1, a2, a3, a4⟩
      · refine .inl ⟨by simp [assocI, hk, a1], ?_, ?_⟩
        · simp only [Instr.sameNow, if_true, hq]; exact a2
        · funext x; simp only [setI, if_neg hk, a3, List.cons_append]
      · refine .inr ⟨k + 1, v, by simp; omega, by simp [assocI, hk, a1], ?_, a3, ?_⟩
        · simp only [Instr.sameNow, if_true, hq]; rw [show i + (k + 1) = i + 1 + k by omega]; exact a2
        · funext x; simp only [setI, if_neg hk, a4, List.set_cons_succ]
theorem checkI (em : Bool) (id : Int) (w : World) : (Instr.checkKey em 10000 3 (.int .i64 id)).run Tryz.prog w = .ok () w := by kernel_rfl
theorem zeroI (w : World) : (zeroValue 3).run Tryz.prog w = .ok (.int .i64 0) w := by kernel_rfl
theorem zeroB (w : World) : (zeroValue 4).run Tryz.prog w = .ok (.bool false) w := by kernel_rfl
/-- m[id] of a map of ints. -/
theorem lookI_int {w : World} {bm : Nat} {kvs : List (Int × Value)} (h : MapI w bm kvs) (id : Int) :
    (Instr.lookup 178 (.map (some bm)) (.int .i64 id) false).run Tryz.prog w = .ok ((assocI kvs id).getD (.int .i64 0)) w := by
  obtain ⟨es, clock, hb, he, hst⟩ := h
  rcases findI_now (id := id) 0 he with ⟨a1, a2, -⟩ | ⟨k, v, -, a1, a2, -, -⟩
  · have hf := MapKept.run_findKey (w := w) Tryz.underlying3 a2
    simp only [Instr.lookup, Sem.run_bind, run_underlying Tryz.underlying178, Result.andThen_ok, MapKept.run_getObj_map hb, Sem.run_pure, checkI, hf, zeroI, a1]
    rfl
  · have hf := MapKept.run_findKey (w := w) Tryz.underlying3 a2
    simp only [Instr.lookup, Sem.run_bind, run_underlying Tryz.underlying178, Result.andThen_ok, MapKept.run_getObj_map hb, Sem.run_pure, checkI, hf, a1]
    rfl
/-- m[id] of a map of bools. -/
theorem lookI_bool {w : World} {bm : Nat} {kvs : List (Int × Value)} (h : MapI w bm kvs) (id : Int) :
    (Instr.lookup 182 (.map (some bm)) (.int .i64 id) false).run Tryz.prog w = .ok ((assocI kvs id).getD (.bool false)) w := by
  obtain ⟨es, clock, hb, he, hst⟩ := h
  rcases findI_now (id := id) 0 he with ⟨a1, a2, -⟩ | ⟨k, v, -, a1, a2, -, -⟩
  · have hf := MapKept.run_findKey (w := w) Tryz.underlying3 a2
    simp only [Instr.lookup, Sem.run_bind, run_underlying Tryz.underlying182, Result.andThen_ok, MapKept.run_getObj_map hb, Sem.run_pure, checkI, hf, zeroB, a1]
    rfl
  · have hf := MapKept.run_findKey (w := w) Tryz.underlying3 a2
    simp only [Instr.lookup, Sem.run_bind, run_underlying Tryz.underlying182, Result.andThen_ok, MapKept.run_getObj_map hb, Sem.run_pure, checkI, hf, a1]
    rfl
theorem staysI (a : Int) (w : World) : (Instr.keyThatStays (.int .i64 a) (.int .i64 a)).run Tryz.prog w = .ok (.int .i64 a) w := by
  simp [Instr.keyThatStays, Instr.sameBits, Sem.run_pure]
theorem list_modify_setI {α : Type} : ∀ (l : List α) (k : Nat) (f : α → α) (x : α), l[k]? = some x → l.modify k f = l.set k (f x)
  | [], k, f, x, h => by simp at h
  | a :: l, 0, f, x, h => by cases h; simp
  | a :: l, k + 1, f, x, h => by
    have := list_modify_setI l k f x (by simpa using h)
    simp [this]
/-- From w to w' one block alone changes, and no memory is new. -/
structure Upd (bm : Nat) (w w' : World) : Prop where
  os : w'.os = w.os
  tape : w'.tape = w.tape
  output : w'.output = w.output
  size : w'.heap.size = w.heap.size
  block : ∀ k, k ≠ bm → w'.heap[k]? = w.heap[k]?
theorem Upd.heap (w : World) (bm : Nat) (o : Obj) : Upd bm w { w with heap := w.heap.setIfInBounds bm o } := by
  refine ⟨rfl, rfl, rfl, by simp, fun k hk => ?_⟩
  simp [Array.getElem?_setIfInBounds, Ne.symm hk]
theorem Upd.below {bm B : Nat} {w w' : World} (h : Upd bm w w') (hb : B ≤ bm) : Below B w w' := ⟨h.os, h.tape, h.output, Nat.le_of_eq h.size.symm, fun k hk => h.block k (by omega)⟩
theorem Upd.cell {bm b o : Nat} {w w' : World} {v : Value} (h : Upd bm w w') (hb : b ≠ bm) (hc : w.cell? ⟨b, o, none⟩ = some v) : w'.cell? ⟨b, o, none⟩ = some v := by
  have hk := h.block b hb
  simp only [World.cell?, hk] at hc ⊢
  exact hc
theorem Upd.map {bm b : Nat} {w w' : World} {kvs : List (Int × Value)} (h : Upd bm w w') (hb : b ≠ bm) (hm : MapI w b kvs) : MapI w' b kvs := by
  obtain ⟨es, c, he, hx⟩ := hm
  exact ⟨es, c, by rw [h.block b hb]; exact he, hx⟩
/-- m[id] = x, a map of ints. -/
theorem updI_int {w : World} {bm : Nat} {kvs : List (Int × Value)} (h : MapI w bm kvs) (id : Int) (x : Value) :
    ∃ w1, (Instr.mapUpdate 178 (.map (some bm)) (.int .i64 id) x).run Tryz.prog w = .ok () w1 ∧ MapI w1 bm (setI kvs id x) ∧ Upd bm w w1 := by
  obtain ⟨es, clock, hb, he, hst⟩ := h
  rcases findI_now (id := id) 0 he with ⟨a1, a2, a3⟩ | ⟨k, v, a0, a1, a2, a3, a4⟩
  · have hf := MapKept.run_findKey (w := w) Tryz.underlying3 a2
    refine ⟨{ w with heap := w.heap.setIfInBounds bm (.map (es.push { key := .int .i64 id, val := x, born := clock }) (clock + 1)) }, ?_, ?_, Upd.heap w bm _⟩
    · simp only [Instr.mapUpdate, Sem.run_bind, run_underlying Tryz.underlying178, Result.andThen_ok, MapKept.run_getObj_map hb, checkI, hf]
      rw [MapKept.run_setObj_map _ hb]
    · refine ⟨_, _, (MapKept.heap_set hb).1, ?_, fun e hx => ?_⟩
      · rw [a3, Array.toList_push, List.map_append, he, List.map_append]; rfl
      · rw [Array.toList_push] at hx
        rcases List.mem_append.1 hx with hx | hx
        · have := hst e hx; omega
        · cases List.mem_singleton.1 hx; simp
  · have hf := MapKept.run_findKey (w := w) Tryz.underlying3 a2
    rw [Nat.zero_add] at hf
    have hget : (es.toList.map (fun e => (e.key, e.val)))[k]? = some (Value.int .i64 id, v) := by rw [he, List.getElem?_map, a3]; rfl
    rw [List.getElem?_map] at hget
    obtain ⟨e0, he0, hk0⟩ : ∃ e0, es.toList[k]? = some e0 ∧ (e0.key, e0.val) = (Value.int .i64 id, v) := by
      cases hx : es.toList[k]? with
      | none => rw [hx] at hget; cases hget
      | some e0 => rw [hx] at hget; exact ⟨e0, rfl, Option.some.inj hget⟩
    have hkey : e0.key = .int .i64 id := (Prod.mk.inj hk0).1
    have he1 : es[k]? = some e0 := by rw [← Array.getElem?_toList]; exact he0
    refine ⟨{ w with heap := w.heap.setIfInBounds bm (.map (es.modify k fun e => { e with key := .int .i64 id, val := x }) clock) }, ?_, ?_, Upd.heap w bm _⟩
    · simp only [Instr.mapUpdate, Sem.run_bind, run_underlying Tryz.underlying178, Result.andThen_ok, MapKept.run_getObj_map hb, checkI, hf, he1, Option.map_some, Option.getD_some, hkey, staysI]
      rw [MapKept.run_setObj_map _ hb]
    · refine ⟨_, _, (MapKept.heap_set hb).1, ?_, fun e hx => ?_⟩
      · rw [a4, Array.toList_modify, list_modify_setI _ _ _ _ he0, List.map_set, he, List.map_set]
      · rw [Array.toList_modify, list_modify_setI _ _ _ _ he0] at hx
        rcases List.mem_or_eq_of_mem_set hx with hx | hx
        · exact hst e hx
        · subst hx; exact hst e0 (List.mem_of_getElem? he0)
/-- m[id] = x, a map of bools. -/
theorem updI_bool {w : World} {bm : Nat} {kvs : List (Int × Value)} (h : MapI w bm kvs) (id : Int) (x : Value) :
    ∃ w1, (Instr.mapUpdate 182 (.map (some bm)) (.int .i64 id) x).run Tryz.prog w = .ok () w1 ∧ MapI w1 bm (setI kvs id x) ∧ Upd bm w w1 := by
  obtain ⟨es, clock, hb, he, hst⟩ := h
  rcases findI_now (id := id) 0 he with ⟨a1, a2, a3⟩ | ⟨k, v, a0, a1, a2, a3, a4⟩
  · have hf := MapKept.run_findKey (w := w) Tryz.underlying3 a2
    refine ⟨{ w with heap := w.heap.setIfInBounds bm (.map (es.push { key := .int .i64 id, val := x, born := clock }) (clock + 1)) }, ?_, ?_, Upd.heap w bm _⟩
    · simp only [Instr.mapUpdate, Sem.run_bind, run_underlying Tryz.underlying182, Result.andThen_ok, MapKept.run_getObj_map hb, checkI, hf]
      rw [MapKept.run_setObj_map _ hb]
    · refine ⟨_, _, (MapKept.heap_set hb).1, ?_, fun e hx => ?_⟩
      · rw [a3, Array.toList_push, List.map_append, he, List.map_append]; rfl
      · rw [Array.toList_push] at hx
        rcases List.mem_append.1 hx with hx | hx
        · have := hst e hx; omega
        · cases List.mem_singleton.1 hx; simp
  · have hf := MapKept.run_findKey (w := w) Tryz.underlying3 a2
    rw [Nat.zero_add] at hf
    have hget : (es.toList.map (fun e => (e.key, e.val)))[k]? = some (Value.int .i64 id, v) := by rw [he, List.getElem?_map, a3]; rfl
    rw [List.getElem?_map] at hget
    obtain ⟨e0, he0, hk0⟩ : ∃ e0, es.toList[k]? = some e0 ∧ (e0.key, e0.val) = (Value.int .i64 id, v) := by
      cases hx : es.toList[k]? with
      | none => rw [hx] at hget; cases hget
      | some e0 => rw [hx] at hget; exact ⟨e0, rfl, Option.some.inj hget⟩
    have hkey : e0.key = .int .i64 id := (Prod.mk.inj hk0).1
    have he1 : es[k]? = some e0 := by rw [← Array.getElem?_toList]; exact he0
    refine ⟨{ w with heap := w.heap.setIfInBounds bm (.map (es.modify k fun e => { e with key := .int .i64 id, val := x }) clock) }, ?_, ?_, Upd.heap w bm _⟩
    · simp only [Instr.mapUpdate, Sem.run_bind, run_underlying Tryz.underlying182, Result.andThen_ok, MapKept.run_getObj_map hb, checkI, hf, he1, Option.map_some, Option.getD_some, hkey, staysI]
      rw [MapKept.run_setObj_map _ hb]
    · refine ⟨_, _, (MapKept.heap_set hb).1, ?_, fun e hx => ?_⟩
      · rw [a4, Array.toList_modify, list_modify_setI _ _ _ _ he0, List.map_set, he, List.map_set]
      · rw [Array.toList_modify, list_modify_setI _ _ _ _ he0] at hx
        rcases List.mem_or_eq_of_mem_set hx with hx | hx
        · exact hst e hx
        · subst hx; exact hst e0 (List.mem_of_getElem? he0)
end Go.Proofs.YtllipidegjpidaaGreatDoor
