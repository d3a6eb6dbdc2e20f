/- Tables of pods and of nodes: New, Get, has, Room, Add into an empty one. -/
import Derived.Test.YtllipidegjpidaaGreatDoorJH
namespace Go.Proofs.YtllipidegjpidaaGreatDoor
set_option linter.all false
open Go.RowKit

/-- A node's entry in a table. -/
abbrev entVal (i : Int) (a1 : Option Addr) (l1 c1 : Nat) (a2 : Option Addr) (l2 c2 : Nat) : Value := .agg #[.int .i64 i, .slice a1 l1 c1, .slice a2 l2 c2]
theorem mapI_len {w : World} {bm : Nat} {kvs : List (Int × Value)} (h : MapI w bm kvs) : ∃ es clock, w.heap[bm]? = some (.map es clock) ∧ es.size = kvs.length := by
  obtain ⟨es, clock, hb, he, hst⟩ := h
  refine ⟨es, clock, hb, ?_⟩
  have := congrArg List.length he
  simp only [List.length_map, Array.length_toList] at this
  exact this
theorem zeroP (w : World) : (zeroValue 40).run Tryz.prog w = .ok (podVal 0 0 false 0 (.slice none 0 0) 0 0 0 0) w := by kernel_rfl
/-- v, ok := m[id]: nothing. -/
theorem lookP_none {w : World} {bm : Nat} {kvs : List (Int × Value)} (h : MapI w bm kvs) (id : Int) (hn : assocI kvs id = none) :
    (Instr.lookup 137 (.map (some bm)) (.int .i64 id) true).run Tryz.prog w = .ok (.tuple #[podVal 0 0 false 0 (.slice none 0 0) 0 0 0 0, .bool false]) w := by
  obtain ⟨es, clock, hb, he, hst⟩ := h
  rcases findI_now (id := id) 0 he with ⟨a1, a2, -⟩ | ⟨k, v, -, a1, a2, -, -⟩
  · have hf := MapKept.run_findKey (w := w) Tryz.underlying3 a2
    simp only [Instr.lookup, Sem.run_bind, run_underlying Tryz.underlying137, Result.andThen_ok, MapKept.run_getObj_map hb, Sem.run_pure, checkI, hf, zeroP]
    rfl
  · rw [hn] at a1; cases a1
theorem lookP_some {w : World} {bm : Nat} {kvs : List (Int × Value)} (h : MapI w bm kvs) (id : Int) (x : Value) (hn : assocI kvs id = some x) :
    (Instr.lookup 137 (.map (some bm)) (.int .i64 id) true).run Tryz.prog w = .ok (.tuple #[x, .bool true]) w := by
  obtain ⟨es, clock, hb, he, hst⟩ := h
  rcases findI_now (id := id) 0 he with ⟨a1, a2, -⟩ | ⟨k, v, -, a1, a2, -, -⟩
  · rw [hn] at a1; cases a1
  · rw [hn] at a1; cases a1
    have hf := MapKept.run_findKey (w := w) Tryz.underlying3 a2
    simp only [Instr.lookup, Sem.run_bind, run_underlying Tryz.underlying137, Result.andThen_ok, MapKept.run_getObj_map hb, Sem.run_pure, checkI, hf]
    rfl
/-- m[id] = x where the map is empty. -/
theorem putP {w : World} {bm : Nat} (h : MapI w bm []) (id : Int) (x : Value) :
    ∃ w1, (Instr.mapUpdate 137 (.map (some bm)) (.int .i64 id) x).run Tryz.prog w = .ok () w1 ∧ MapI w1 bm [(id, x)] ∧ Upd bm w w1 := by
  obtain ⟨es, clock, hb, he, hst⟩ := h
  rcases findI_now (id := id) 0 he with ⟨a1, a2, a3⟩ | ⟨k, v, a0, -⟩
  · have hf := MapKept.run_findKey (w := w) Tryz.underlying3 a2
    refine ⟨{ w with heap := w.heap.setIfInBounds bm (.map (es.push { key := .int .i64 id, val := x, born := clock }) (clock + 1)) }, ?_, ?_, Upd.heap w bm _⟩
    · simp only [Instr.mapUpdate, Sem.run_bind, run_underlying Tryz.underlying137, Result.andThen_ok, MapKept.run_getObj_map hb, checkI, hf]
      rw [MapKept.run_setObj_map _ hb]
    · refine ⟨_, _, (MapKept.heap_set hb).1, ?_, fun e hx => ?_⟩
      · rw [Array.toList_push, List.map_append, he]; rfl
      · rw [Array.toList_push] at hx
        rcases List.mem_append.1 hx with hx | hx
        · have := hst e hx; omega
        · cases List.mem_singleton.1 hx; simp
  · simp at a0
set_option maxHeartbeats 1000000 in
set_option maxRecDepth 100000 in
theorem tnewP_any (n : Nat) (w : World) (hn : n ≤ 100000) : Calls Tryz.prog 46 #[.int .i64 n] w fun e w' => e = .returned (.pointer (some ⟨w.heap.size + 1, 0, none⟩)) ∧ w' = (w.alloc (.map #[] 0)).alloc (.cells #[.int .i64 n, .map (some w.heap.size)] 139) := by
  have hmm := @run_makeMap Tryz.prog
  have h0 : (0 : Int) ≤ (n : Int) := by omega
  have h1 : ¬ ((n : Int) < 0) := by omega
  go_enter Tryz.func46, Tryz.ntmps46
  go_wp2
  all_goals
    go_ret
    exact ⟨rfl, rfl⟩
set_option maxHeartbeats 1000000 in
set_option maxRecDepth 100000 in
theorem tgetP_any (m tb : Nat) (id : Int) (i pr : Int) (q : Bool) (g : Int) (ra : Option Addr) (rl rc : Nat) (ar ph no de : Int) (f : Bool) (w : World) (ht : w.cell? ⟨tb, 1, none⟩ = some (.map (some m)))
    (hl : ∀ X, From w X → (Instr.lookup 137 (.map (some m)) (.int .i64 id) true).run Tryz.prog X = .ok (.tuple #[(podVal i pr q g (.slice ra rl rc) ar ph no de), .bool f]) X) :
    Calls Tryz.prog 62 #[.pointer (some ⟨tb, 0, none⟩), .int .i64 id] w fun e w' => e = .returned (.tuple #[(podVal i pr q g (.slice ra rl rc) ar ph no de), .bool f]) ∧ From w w' := by
  obtain ⟨X, hX⟩ : ∃ X, X = w.alloc (.cells #[.int .i64 0, .int .i64 0, .bool false, .int .i64 0, .slice none 0 0, .int .i64 0, .int .i64 0, .int .i64 0, .int .i64 0] 40) := ⟨_, rfl⟩
  have FX : From w X := by rw [hX]; exact (From.refl w).alloc _
  have L := hl X FX
  have hlt := cell_lt ht
  rw [hX] at L
  clear hl hX FX
  go_enter Tryz.func62, Tryz.ntmps62
  go_wp2
  refine bodyPost_ret (v := .tuple #[(podVal i pr q g (.slice ra rl rc) ar ph no de), .bool f]) ?_ rfl ⟨rfl, ?_⟩
  · simp only [results, Tryz.results62]; go_simp
  · have h0 : Below w.heap.size w (w.alloc (.cells #[.int .i64 0, .int .i64 0, .bool false, .int .i64 0, .slice none 0 0, .int .i64 0, .int .i64 0, .int .i64 0, .int .i64 0] 40)) := ((From.refl w).alloc _).out
    constructor
    repeat (first | (with_reducible exact Below.refl _ _) | (with_reducible exact h0) | (with_reducible refine below_set ?_ (by simp) _) | (with_reducible refine Below.alloc ?_ (by simp) _))
set_option maxHeartbeats 1000000 in
set_option maxRecDepth 100000 in
theorem thasP_any (m tb : Nat) (id : Int) (i pr : Int) (q : Bool) (g : Int) (ra : Option Addr) (rl rc : Nat) (ar ph no de : Int) (f : Bool) (w : World) (ht : w.cell? ⟨tb, 1, none⟩ = some (.map (some m)))
    (hl : ∀ X, From w X → (Instr.lookup 137 (.map (some m)) (.int .i64 id) true).run Tryz.prog X = .ok (.tuple #[(podVal i pr q g (.slice ra rl rc) ar ph no de), .bool f]) X) :
    Calls Tryz.prog 88 #[.pointer (some ⟨tb, 0, none⟩), .int .i64 id] w fun e w' => e = .returned (.bool f) ∧ From w w' := by
  have HG := Lib.hid (tgetP_any m tb id i pr q g ra rl rc ar ph no de f w ht hl)
  clear hl ht
  go_enter Tryz.func88, Tryz.ntmps88
  go_wp2_with fail
  refine HG.out.mono ?_
  rintro e w1 ⟨rfl, hf⟩
  have HF := Lib.hid hf
  clear hf
  go_wp2
  go_ret
  exact ⟨rfl, HF.out.alloc _⟩
set_option maxHeartbeats 1000000 in
set_option maxRecDepth 100000 in
theorem troomP_any (m tb n : Nat) (w : World) (hn : n ≤ 100000) (h0 : w.cell? ⟨tb, 0, none⟩ = some (.int .i64 n)) (h1 : w.cell? ⟨tb, 1, none⟩ = some (.map (some m))) (hm : MapI w m []) :
    Calls Tryz.prog 89 #[.pointer (some ⟨tb, 0, none⟩)] w fun e w' => e = .returned (.int .i64 n) ∧ From w w' := by
  obtain ⟨es, clock, hb, hs⟩ := mapI_len hm
  have hl : (n : Int) ≤ 100000 := by omega
  have hl0 : (0 : Int) ≤ (n : Int) := by omega
  clear hm
  go_enter Tryz.func89, Tryz.ntmps89
  go_wp2
  have HL : (Builtin.len_ #[137] 3 #[.map (some m)]).run Tryz.prog w.drew = .ok (.int .i64 0) w.drew := by
    have e := run_len_map (P := Tryz.prog) (w := w.drew) 137 3 m es clock (by kernel_rfl) ((((Below.refl _ w).drew).block m (Array.getElem?_eq_some_iff.1 hb).1).trans hb)
    rw [hs] at e
    exact e
  clear hb hs
  go_region
  go_wp2
  go_ret
  exact ⟨rfl, (From.refl w).drew⟩
set_option maxHeartbeats 1000000 in
set_option maxRecDepth 100000 in
theorem taddP_any (m tb n : Nat) (id : Int) (i pr : Int) (q : Bool) (g : Int) (ra : Option Addr) (rl rc : Nat) (ar ph no de : Int) (w : World) (hn : n ≤ 100000) (hn0 : 0 < n) (h0 : w.cell? ⟨tb, 0, none⟩ = some (.int .i64 n)) (h1 : w.cell? ⟨tb, 1, none⟩ = some (.map (some m))) (hm : MapI w m []) :
    Calls Tryz.prog 57 #[.pointer (some ⟨tb, 0, none⟩), .int .i64 id, (podVal i pr q g (.slice ra rl rc) ar ph no de)] w fun e w' => e = .returned .nilIface ∧ MapI w' m [(id, (podVal i pr q g (.slice ra rl rc) ar ph no de))] ∧ ∃ X, From w X ∧ Upd m X w' := by
  have HH : Hid (∀ X, From w X → Calls Tryz.prog 88 #[.pointer (some ⟨tb, 0, none⟩), .int .i64 id] X fun e w' => e = .returned (.bool false) ∧ From X w') := fun X f =>
    thasP_any m tb id 0 0 false 0 none 0 0 0 0 0 0 false X (f.cell h1) (fun Y g => lookP_none (hm.below (f.trans g).out) id rfl)
  have HR : Hid (∀ X, From w X → Calls Tryz.prog 89 #[.pointer (some ⟨tb, 0, none⟩)] X fun e w' => e = .returned (.int .i64 n) ∧ From X w') := fun X f => troomP_any m tb n X hn (f.cell h0) (f.cell h1) (hm.below f.out)
  have HM := Lib.hid hm
  have HT := Lib.hid h1
  have hnn : ((n : Int) == 0) = false := by rw [beq_eq_false_iff_ne]; omega
  clear h0 h1 hm
  go_enter Tryz.func57, Tryz.ntmps57
  go_wp2_with fail
  refine calls_named fun X hX => ?_
  have F1 : From w X := by rw [hX]; exact (From.refl w).alloc _
  have e0 : X.cell? ⟨w.heap.size, 0, none⟩ = some (.int .i64 i) := by rw [hX]; go_simp
  have e1 : X.cell? ⟨w.heap.size, 1, none⟩ = some (.int .i64 pr) := by rw [hX]; go_simp
  have e2 : X.cell? ⟨w.heap.size, 2, none⟩ = some (.bool q) := by rw [hX]; go_simp
  have e3 : X.cell? ⟨w.heap.size, 3, none⟩ = some (.int .i64 g) := by rw [hX]; go_simp
  have e4 : X.cell? ⟨w.heap.size, 4, none⟩ = some (.slice ra rl rc) := by rw [hX]; go_simp
  have e5 : X.cell? ⟨w.heap.size, 5, none⟩ = some (.int .i64 ar) := by rw [hX]; go_simp
  have e6 : X.cell? ⟨w.heap.size, 6, none⟩ = some (.int .i64 ph) := by rw [hX]; go_simp
  have e7 : X.cell? ⟨w.heap.size, 7, none⟩ = some (.int .i64 no) := by rw [hX]; go_simp
  have e8 : X.cell? ⟨w.heap.size, 8, none⟩ = some (.int .i64 de) := by rw [hX]; go_simp
  clear hX
  have HF1 := Lib.hid F1
  clear F1
  refine (HH.out _ HF1.out).mono ?_
  rintro e W1 ⟨rfl, f1⟩
  have e0 := f1.cell e0
  have e1 := f1.cell e1
  have e2 := f1.cell e2
  have e3 := f1.cell e3
  have e4 := f1.cell e4
  have e5 := f1.cell e5
  have e6 := f1.cell e6
  have e7 := f1.cell e7
  have e8 := f1.cell e8
  have HF2 := Lib.hid (HF1.out.trans f1)
  clear f1
  go_wp2_with fail
  refine (HR.out _ HF2.out).mono ?_
  rintro e W2 ⟨rfl, f2⟩
  have e0 := f2.cell e0
  have e1 := f2.cell e1
  have e2 := f2.cell e2
  have e3 := f2.cell e3
  have e4 := f2.cell e4
  have e5 := f2.cell e5
  have e6 := f2.cell e6
  have e7 := f2.cell e7
  have e8 := f2.cell e8
  have F3 := HF2.out.trans f2
  have t1 := F3.cell HT.out
  obtain ⟨Z, hu, hz, hU⟩ := putP (w := W2.drew) (HM.out.below F3.drew.out) id (podVal i pr q g (.slice ra rl rc) ar ph no de)
  have HZ : Hid (MapI Z m [(id, (podVal i pr q g (.slice ra rl rc) ar ph no de))] ∧ ∃ X, From w X ∧ Upd m X Z) := ⟨hz, W2.drew, F3.drew, hU⟩
  clear hz hU F3 f2
  go_wp2
  go_region
  go_wp2
  go_ret
  exact ⟨rfl, HZ.out⟩
theorem zeroE (w : World) : (zeroValue 117).run Tryz.prog w = .ok (entVal 0 none 0 0 none 0 0) w := by kernel_rfl
/-- v, ok := m[id]: nothing. -/
theorem lookE_none {w : World} {bm : Nat} {kvs : List (Int × Value)} (h : MapI w bm kvs) (id : Int) (hn : assocI kvs id = none) :
    (Instr.lookup 140 (.map (some bm)) (.int .i64 id) true).run Tryz.prog w = .ok (.tuple #[entVal 0 none 0 0 none 0 0, .bool false]) w := by
  obtain ⟨es, clock, hb, he, hst⟩ := h
  rcases findI_now (id := id) 0 he with ⟨a1, a2, -⟩ | ⟨k, v, -, a1, a2, -, -⟩
  · have hf := MapKept.run_findKey (w := w) Tryz.underlying3 a2
    simp only [Instr.lookup, Sem.run_bind, run_underlying Tryz.underlying140, Result.andThen_ok, MapKept.run_getObj_map hb, Sem.run_pure, checkI, hf, zeroE]
    rfl
  · rw [hn] at a1; cases a1
theorem lookE_some {w : World} {bm : Nat} {kvs : List (Int × Value)} (h : MapI w bm kvs) (id : Int) (x : Value) (hn : assocI kvs id = some x) :
    (Instr.lookup 140 (.map (some bm)) (.int .i64 id) true).run Tryz.prog w = .ok (.tuple #[x, .bool true]) w := by
  obtain ⟨es, clock, hb, he, hst⟩ := h
  rcases findI_now (id := id) 0 he with ⟨a1, a2, -⟩ | ⟨k, v, -, a1, a2, -, -⟩
  · rw [hn] at a1; cases a1
  · rw [hn] at a1; cases a1
    have hf := MapKept.run_findKey (w := w) Tryz.underlying3 a2
    simp only [Instr.lookup, Sem.run_bind, run_underlying Tryz.underlying140, Result.andThen_ok, MapKept.run_getObj_map hb, Sem.run_pure, checkI, hf]
    rfl
/-- m[id] = x where the map is empty. -/
theorem putE {w : World} {bm : Nat} (h : MapI w bm []) (id : Int) (x : Value) :
    ∃ w1, (Instr.mapUpdate 140 (.map (some bm)) (.int .i64 id) x).run Tryz.prog w = .ok () w1 ∧ MapI w1 bm [(id, x)] ∧ Upd bm w w1 := by
  obtain ⟨es, clock, hb, he, hst⟩ := h
  rcases findI_now (id := id) 0 he with ⟨a1, a2, a3⟩ | ⟨k, v, a0, -⟩
  · have hf := MapKept.run_findKey (w := w) Tryz.underlying3 a2
    refine ⟨{ w with heap := w.heap.setIfInBounds bm (.map (es.push { key := .int .i64 id, val := x, born := clock }) (clock + 1)) }, ?_, ?_, Upd.heap w bm _⟩
    · simp only [Instr.mapUpdate, Sem.run_bind, run_underlying Tryz.underlying140, Result.andThen_ok, MapKept.run_getObj_map hb, checkI, hf]
      rw [MapKept.run_setObj_map _ hb]
    · refine ⟨_, _, (MapKept.heap_set hb).1, ?_, fun e hx => ?_⟩
      · rw [Array.toList_push, List.map_append, he]; rfl
      · rw [Array.toList_push] at hx
        rcases List.mem_append.1 hx with hx | hx
        · have := hst e hx; omega
        · cases List.mem_singleton.1 hx; simp
  · simp at a0
set_option maxHeartbeats 1000000 in
set_option maxRecDepth 100000 in
theorem tnewE_any (n : Nat) (w : World) (hn : n ≤ 100000) : Calls Tryz.prog 47 #[.int .i64 n] w fun e w' => e = .returned (.pointer (some ⟨w.heap.size + 1, 0, none⟩)) ∧ w' = (w.alloc (.map #[] 0)).alloc (.cells #[.int .i64 n, .map (some w.heap.size)] 142) := by
  have hmm := @run_makeMap Tryz.prog
  have h0 : (0 : Int) ≤ (n : Int) := by omega
  have h1 : ¬ ((n : Int) < 0) := by omega
  go_enter Tryz.func47, Tryz.ntmps47
  go_wp2
  all_goals
    go_ret
    exact ⟨rfl, rfl⟩
set_option maxHeartbeats 1000000 in
set_option maxRecDepth 100000 in
theorem tgetE_any (m tb : Nat) (id : Int) (i : Int) (a1 : Option Addr) (l1 c1 : Nat) (a2 : Option Addr) (l2 c2 : Nat) (f : Bool) (w : World) (ht : w.cell? ⟨tb, 1, none⟩ = some (.map (some m)))
    (hl : ∀ X, From w X → (Instr.lookup 140 (.map (some m)) (.int .i64 id) true).run Tryz.prog X = .ok (.tuple #[(entVal i a1 l1 c1 a2 l2 c2), .bool f]) X) :
    Calls Tryz.prog 118 #[.pointer (some ⟨tb, 0, none⟩), .int .i64 id] w fun e w' => e = .returned (.tuple #[(entVal i a1 l1 c1 a2 l2 c2), .bool f]) ∧ From w w' := by
  obtain ⟨X, hX⟩ : ∃ X, X = w.alloc (.cells #[.int .i64 0, .slice none 0 0, .slice none 0 0] 117) := ⟨_, rfl⟩
  have FX : From w X := by rw [hX]; exact (From.refl w).alloc _
  have L := hl X FX
  have hlt := cell_lt ht
  rw [hX] at L
  clear hl hX FX
  go_enter Tryz.func118, Tryz.ntmps118
  go_wp2
  refine bodyPost_ret (v := .tuple #[(entVal i a1 l1 c1 a2 l2 c2), .bool f]) ?_ rfl ⟨rfl, ?_⟩
  · simp only [results, Tryz.results118]; go_simp
  · have h0 : Below w.heap.size w (w.alloc (.cells #[.int .i64 0, .slice none 0 0, .slice none 0 0] 117)) := ((From.refl w).alloc _).out
    constructor
    repeat (first | (with_reducible exact Below.refl _ _) | (with_reducible exact h0) | (with_reducible refine below_set ?_ (by simp) _) | (with_reducible refine Below.alloc ?_ (by simp) _))
set_option maxHeartbeats 1000000 in
set_option maxRecDepth 100000 in
theorem thasE_any (m tb : Nat) (id : Int) (i : Int) (a1 : Option Addr) (l1 c1 : Nat) (a2 : Option Addr) (l2 c2 : Nat) (f : Bool) (w : World) (ht : w.cell? ⟨tb, 1, none⟩ = some (.map (some m)))
    (hl : ∀ X, From w X → (Instr.lookup 140 (.map (some m)) (.int .i64 id) true).run Tryz.prog X = .ok (.tuple #[(entVal i a1 l1 c1 a2 l2 c2), .bool f]) X) :
    Calls Tryz.prog 82 #[.pointer (some ⟨tb, 0, none⟩), .int .i64 id] w fun e w' => e = .returned (.bool f) ∧ From w w' := by
  have HG := Lib.hid (tgetE_any m tb id i a1 l1 c1 a2 l2 c2 f w ht hl)
  clear hl ht
  go_enter Tryz.func82, Tryz.ntmps82
  go_wp2_with fail
  refine HG.out.mono ?_
  rintro e w1 ⟨rfl, hf⟩
  have HF := Lib.hid hf
  clear hf
  go_wp2
  go_ret
  exact ⟨rfl, HF.out.alloc _⟩
set_option maxHeartbeats 1000000 in
set_option maxRecDepth 100000 in
theorem troomE_any (m tb n : Nat) (w : World) (hn : n ≤ 100000) (h0 : w.cell? ⟨tb, 0, none⟩ = some (.int .i64 n)) (h1 : w.cell? ⟨tb, 1, none⟩ = some (.map (some m))) (hm : MapI w m []) :
    Calls Tryz.prog 83 #[.pointer (some ⟨tb, 0, none⟩)] w fun e w' => e = .returned (.int .i64 n) ∧ From w w' := by
  obtain ⟨es, clock, hb, hs⟩ := mapI_len hm
  have hl : (n : Int) ≤ 100000 := by omega
  have hl0 : (0 : Int) ≤ (n : Int) := by omega
  clear hm
  go_enter Tryz.func83, Tryz.ntmps83
  go_wp2
  have HL : (Builtin.len_ #[140] 3 #[.map (some m)]).run Tryz.prog w.drew = .ok (.int .i64 0) w.drew := by
    have e := run_len_map (P := Tryz.prog) (w := w.drew) 140 3 m es clock (by kernel_rfl) ((((Below.refl _ w).drew).block m (Array.getElem?_eq_some_iff.1 hb).1).trans hb)
    rw [hs] at e
    exact e
  clear hb hs
  go_region
  go_wp2
  go_ret
  exact ⟨rfl, (From.refl w).drew⟩
set_option maxHeartbeats 1000000 in
set_option maxRecDepth 100000 in
theorem taddE_any (m tb n : Nat) (id : Int) (i : Int) (a1 : Option Addr) (l1 c1 : Nat) (a2 : Option Addr) (l2 c2 : Nat) (w : World) (hn : n ≤ 100000) (hn0 : 0 < n) (h0 : w.cell? ⟨tb, 0, none⟩ = some (.int .i64 n)) (h1 : w.cell? ⟨tb, 1, none⟩ = some (.map (some m))) (hm : MapI w m []) :
    Calls Tryz.prog 50 #[.pointer (some ⟨tb, 0, none⟩), .int .i64 id, (entVal i a1 l1 c1 a2 l2 c2)] w fun e w' => e = .returned .nilIface ∧ MapI w' m [(id, (entVal i a1 l1 c1 a2 l2 c2))] ∧ ∃ X, From w X ∧ Upd m X w' := by
  have HH : Hid (∀ X, From w X → Calls Tryz.prog 82 #[.pointer (some ⟨tb, 0, none⟩), .int .i64 id] X fun e w' => e = .returned (.bool false) ∧ From X w') := fun X f =>
    thasE_any m tb id 0 none 0 0 none 0 0 false X (f.cell h1) (fun Y g => lookE_none (hm.below (f.trans g).out) id rfl)
  have HR : Hid (∀ X, From w X → Calls Tryz.prog 83 #[.pointer (some ⟨tb, 0, none⟩)] X fun e w' => e = .returned (.int .i64 n) ∧ From X w') := fun X f => troomE_any m tb n X hn (f.cell h0) (f.cell h1) (hm.below f.out)
  have HM := Lib.hid hm
  have HT := Lib.hid h1
  have hnn : ((n : Int) == 0) = false := by rw [beq_eq_false_iff_ne]; omega
  clear h0 h1 hm
  go_enter Tryz.func50, Tryz.ntmps50
  go_wp2_with fail
  refine calls_named fun X hX => ?_
  have F1 : From w X := by rw [hX]; exact (From.refl w).alloc _
  have e0 : X.cell? ⟨w.heap.size, 0, none⟩ = some (.int .i64 i) := by rw [hX]; go_simp
  have e1 : X.cell? ⟨w.heap.size, 1, none⟩ = some (.slice a1 l1 c1) := by rw [hX]; go_simp
  have e2 : X.cell? ⟨w.heap.size, 2, none⟩ = some (.slice a2 l2 c2) := by rw [hX]; go_simp
  clear hX
  have HF1 := Lib.hid F1
  clear F1
  refine (HH.out _ HF1.out).mono ?_
  rintro e W1 ⟨rfl, f1⟩
  have e0 := f1.cell e0
  have e1 := f1.cell e1
  have e2 := f1.cell e2
  have HF2 := Lib.hid (HF1.out.trans f1)
  clear f1
  go_wp2_with fail
  refine (HR.out _ HF2.out).mono ?_
  rintro e W2 ⟨rfl, f2⟩
  have e0 := f2.cell e0
  have e1 := f2.cell e1
  have e2 := f2.cell e2
  have F3 := HF2.out.trans f2
  have t1 := F3.cell HT.out
  obtain ⟨Z, hu, hz, hU⟩ := putE (w := W2.drew) (HM.out.below F3.drew.out) id (entVal i a1 l1 c1 a2 l2 c2)
  have HZ : Hid (MapI Z m [(id, (entVal i a1 l1 c1 a2 l2 c2))] ∧ ∃ X, From w X ∧ Upd m X Z) := ⟨hz, W2.drew, F3.drew, hU⟩
  clear hz hU F3 f2
  go_wp2
  go_region
  go_wp2
  go_ret
  exact ⟨rfl, HZ.out⟩
end Go.Proofs.YtllipidegjpidaaGreatDoor
