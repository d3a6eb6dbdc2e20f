/- What log.Parse calls: strings.Split, the index of a name, its closure. -/
import Derived.Test.YtdclokpoeaehlaaGreatDoorLogM
namespace Go.Proofs.YtdclokpoeaehlaaGreatDoor
set_option linter.all false
open Go.RowKit

/-- w came of a by new memory, draws, and stores into block g. -/
structure Mut (g : Nat) (a w : World) : Prop where
  os : w.os = a.os
  tape : w.tape = a.tape
  output : w.output = a.output
  size : a.heap.size ≤ w.heap.size
  block : ∀ k, k < a.heap.size → k ≠ g → w.heap[k]? = a.heap[k]?
theorem Mut.refl (g : Nat) (a : World) : Mut g a a := ⟨rfl, rfl, rfl, Nat.le_refl _, fun _ _ _ => rfl⟩
theorem Mut.step {g : Nat} {a w w' : World} (h : Mut g a w) (hb : Below w.heap.size w w') : Mut g a w' :=
  ⟨hb.os.trans h.os, hb.tape.trans h.tape, hb.output.trans h.output, Nat.le_trans h.size hb.size, fun k hk hg => (hb.block k (Nat.lt_of_lt_of_le hk h.size)).trans (h.block k hk hg)⟩
theorem Mut.drew {g : Nat} {a w : World} (h : Mut g a w) : Mut g a w.drew := h.step (From.refl w).drew.out
theorem Mut.alloc {g : Nat} {a w : World} (h : Mut g a w) (o : Obj) : Mut g a (w.alloc o) := h.step ((From.refl w).alloc o).out
theorem Mut.set {g o : Nat} {a w : World} (h : Mut g a w) (v : Value) : Mut g a (w.setCell ⟨g, o, none⟩ v) := by
  refine ⟨h.os, h.tape, h.output, by simpa using h.size, fun k hk hg => ?_⟩
  rw [← h.block k hk hg]
  show (w.heap.modify g _)[k]? = w.heap[k]?
  rw [Array.getElem?_modify, if_neg (Ne.symm hg)]
theorem Mut.trans {g : Nat} {a w w' : World} (h : Mut g a w) (k : Mut g w w') : Mut g a w' :=
  ⟨k.os.trans h.os, k.tape.trans h.tape, k.output.trans h.output, Nat.le_trans h.size k.size, fun j hj hg => (k.block j (Nat.lt_of_lt_of_le hj h.size) hg).trans (h.block j hj hg)⟩
theorem Mut.of_below {g : Nat} {a w : World} (h : Below a.heap.size a w) : Mut g a w := (Mut.refl g a).step h
theorem Mut.cell {g : Nat} {a w : World} (h : Mut g a w) {b o : Nat} {v : Value} (hb : b ≠ g) (hc : a.cell? ⟨b, o, none⟩ = some v) : w.cell? ⟨b, o, none⟩ = some v :=
  (World.cell?_of_block (a := ⟨b, o, none⟩) (h.block b (cell_lt hc) hb)).trans hc
theorem Mut.frozen {g : Nat} {a w : World} (h : Mut g a w) {b o : Nat} (hb : b ≠ g) (hl : b < a.heap.size) : w.frozen? ⟨b, o, none⟩ = a.frozen? ⟨b, o, none⟩ :=
  World.frozen?_of_block (a := ⟨b, o, none⟩) (h.block b hl hb)
theorem Mut.below {g B : Nat} {x a w : World} (h : Mut g a w) (hx : Below B x a) (hB : B ≤ a.heap.size) (hg : B ≤ g) : Below B x w :=
  ⟨h.os.trans hx.os, h.tape.trans hx.tape, h.output.trans hx.output, Nat.le_trans hx.size h.size, fun k hk => (h.block k (by omega) (by omega)).trans (hx.block k hk)⟩
theorem Mut.var {g : Nat} {n : String} {w w' : World} {cs : Array Value} (h : w.var? Tryz.prog n = some cs) (hb : Mut g w w') (hg : Tryz.prog.globalNamed n ≠ some g) : w'.var? Tryz.prog n = some cs := by
  unfold World.var? at h ⊢
  cases hx : Tryz.prog.globalNamed n with
  | none => rw [hx] at h; cases h
  | some i =>
    rw [hx] at h
    simp only [Option.bind_some] at h ⊢
    have hlt : i < w.heap.size := by
      rcases Nat.lt_or_ge i w.heap.size with h' | h'
      · exact h'
      · rw [Array.getElem?_eq_none h'] at h; cases h
    rw [hb.block i hlt (fun e => hg (by rw [hx, e]))]
    exact h
theorem cell_new (w : World) (cs : Array Value) (e : TypeId) (j : Nat) : (w.alloc (.cells cs e)).cell? ⟨w.heap.size, j, none⟩ = cs[j]? := by
  unfold World.cell?
  rw [show (w.alloc (.cells cs e)).heap[w.heap.size]? = some (.cells cs e (0, 0)) from heap_alloc_new w _]
  rfl
theorem split_any (s : ByteArray) (sep : List UInt8) (w : World) (hs : s.size < 4294967281) (hsep : 1 ≤ sep.length) (ht : Tabs w) :
    Calls Tryz.prog 49 #[.string s, .string (str sep)] w fun e w' => ∃ b cap, e = .returned (.slice (some ⟨b, 0, none⟩) (Lib.split s.data.toList sep).length cap) ∧ b < w'.heap.size ∧ (∀ j, j < (Lib.split s.data.toList sep).length → w'.cell? ⟨b, j, none⟩ = some (.string (str (strAt (Lib.split s.data.toList sep) j)))) ∧ Below w.heap.size w w' := by
  obtain ⟨m, hm⟩ := ht.len
  refine (Tryz.strings_Split s (str sep) m w hs hm (by rw [str_size]; exact hsep)).mono ?_
  rintro e w' ⟨rfl, rfl⟩
  have h1 : 1 ≤ (str sep).size := by rw [str_size]; exact hsep
  have hn := count_split s (str sep) h1
  have hx := splitB_split (str sep) h1 s.size s (Nat.le_refl _)
  rw [str_toList] at hn hx
  refine ⟨w.heap.size, _, by rw [hn], by simp, fun j hj => ?_, (Below.refl _ _).alloc (Nat.le_refl _) _⟩
  rw [hx]
  have h2 : ((((Lib.split s.data.toList sep).map str).map Value.string).toArray)[j]? = some (.string (str (strAt (Lib.split s.data.toList sep) j))) := by
    simp only [List.map_map, List.getElem?_toArray, List.getElem?_map]
    rw [strAt_get hj]
    rfl
  rw [cell_new, h2]
theorem idxFrom_find (x : List UInt8) : ∀ (l : List (List UInt8)) (i : Nat), Lib.idxFromS (l.map str) (str x) i = match l.findIdx? (· == x) with | some j => ((i + j : Nat) : Int) | none => -1
  | [], i => rfl
  | y :: l, i => by
    simp only [List.map_cons, Lib.idxFromS, List.findIdx?_cons]
    by_cases h : y = x
    · subst h
      simp
    · rw [if_neg (fun e => h (str_inj e)), idxFrom_find x l (i + 1)]
      have hb : (y == x) = false := by rw [beq_eq_false_iff_ne]; exact h
      rw [hb]
      cases l.findIdx? (· == x) with
      | none => rfl
      | some j =>
        show ((i + 1 + j : Nat) : Int) = ((i + (j + 1) : Nat) : Int)
        congr 1; omega
theorem idx_kind (x : List UInt8) : Lib.idxOfS ((decNames.tail.map str).take 11) (str x) + 1 = (kindOf x : Int) := by
  have e : (decNames.tail.map str).take 11 = decNames.tail.map str := List.take_of_length_le (by simp [decNames])
  rw [e]
  unfold Lib.idxOfS kindOf
  rw [idxFrom_find]
  cases decNames.tail.findIdx? (· == x) with
  | none => rfl
  | some j => simp
theorem index_any (x : List UInt8) (w : World) (hn : NamesAt w) :
    Calls Tryz.prog 50 #[.slice (some ⟨0, 1, none⟩) 11 11, .string (str x)] w fun e w' => e = .returned (.int .i64 ((kindOf x : Int) - 1)) ∧ w' = w := by
  refine (Tryz.slices_Index_string 0 1 11 11 (decNames.tail.map str) (str x) w (by decide) (by decide) fun j hj => ?_).mono fun e w' ⟨he, hw⟩ => ⟨by rw [he, ← idx_kind x]; congr 2; omega, hw⟩
  have hj' : j < 11 := by simpa [decNames] using hj
  rw [Nat.add_comm, hn (j + 1) (by omega)]
  have : j = 0 ∨ j = 1 ∨ j = 2 ∨ j = 3 ∨ j = 4 ∨ j = 5 ∨ j = 6 ∨ j = 7 ∨ j = 8 ∨ j = 9 ∨ j = 10 := by omega
  rcases this with rfl | rfl | rfl | rfl | rfl | rfl | rfl | rfl | rfl | rfl | rfl <;> rfl
/-- What the closure finds of a word: whether it is a value, and the value. -/
def vB (y : List UInt8) : Bool := (dvalue y).isSome
def vI (y : List UInt8) : Int := if y = [45] then -1 else numI y
theorem v_some {y : List UInt8} (h : vB y = true) : dvalue y = some (vI y) := by
  unfold vB at h
  unfold vI
  by_cases h1 : y = [45]
  · rw [if_pos h1, h1]; rfl
  · rw [if_neg h1]
    by_cases h2 : numB y = false ∨ numI y = -1
    · rw [dv_bad h1 h2] at h; cases h
    · have h3 : numB y = true := by cases h4 : numB y with | true => rfl | false => exact absurd (.inl h4) h2
      exact dv_num h1 h3 (fun h => h2 (.inr h))
theorem v_none {y : List UInt8} (h : vB y = false) : dvalue y = none := by
  unfold vB at h
  cases h1 : dvalue y with
  | none => rfl
  | some v => rw [h1] at h; cases h
theorem vB_num {y : List UInt8} (h : y ≠ [45]) : vB y = (numB y && numI y != -1) := by
  unfold vB
  by_cases h2 : numB y = false ∨ numI y = -1
  · rw [dv_bad h h2]
    rcases h2 with h2 | h2 <;> simp [h2]
  · have h3 : numB y = true := by cases h4 : numB y with | true => rfl | false => exact absurd (.inl h4) h2
    have h4 : numI y ≠ -1 := fun h => h2 (.inr h)
    rw [dv_num h h3 h4, h3]
    simp [h4]
set_option maxHeartbeats 1000000 in
set_option maxRecDepth 100000 in
theorem val_any (y : List UInt8) (g : Nat) (r : Bool) (w : World) (hl : y.length ≤ 140737488351232) (ht : Tabs w) (hc : w.cell? ⟨g, 0, none⟩ = some (.bool r)) (hf : w.frozen? ⟨g, 0, none⟩ = false) :
    Calls Tryz.prog 51 #[.string (str y), .pointer (some ⟨g, 0, none⟩)] w fun e w' => e = .returned (.int .i64 (vI y)) ∧ Mut g w w' ∧ w'.cell? ⟨g, 0, none⟩ = some (.bool (r && vB y)) ∧ w'.frozen? ⟨g, 0, none⟩ = false := by
  have hg := cell_lt hc
  by_cases h45 : y = [45]
  · have e1 : vI y = -1 := by unfold vI; rw [if_pos h45]
    have e2 : vB y = true := by unfold vB; rw [h45]; rfl
    have hb : ((str y).toList == [45]) = true := by rw [beq_iff_eq, ByteArray.toList_eq]; exact h45
    rw [e1, e2, Bool.and_true]
    clear e1 e2 h45
    have HC := Lib.hid hc
    have HF := Lib.hid hf
    clear hc hf
    go_enter Tryz.func51, Tryz.ntmps51
    go_wp2
    go_ret
    exact ⟨rfl, Mut.refl _ _, HC.out, HF.out⟩
  · have e1 : vI y = numI y := by unfold vI; rw [if_neg h45]
    have hb : ((str y).toList == [45]) = false := by rw [beq_eq_false_iff_ne, ByteArray.toList_eq]; exact h45
    have HN := Lib.hid (number_any y w hl ht)
    have e2 := vB_num h45
    rw [e1, e2]
    have HC := Lib.hid hc
    have HF := Lib.hid hf
    clear e1 e2 h45 hc hf ht
    generalize numI y = n at *
    generalize numB y = b at *
    have hstart : ∀ q, q = (r && (b && n != -1)) → Calls Tryz.prog 51 #[.string (str y), .pointer (some ⟨g, 0, none⟩)] w fun e w' => e = .returned (.int .i64 n) ∧ Mut g w w' ∧ w'.cell? ⟨g, 0, none⟩ = some (.bool q) ∧ w'.frozen? ⟨g, 0, none⟩ = false := by
      intro q hq
      cases r
      · obtain rfl : q = false := by rw [hq]; rfl
        clear hq
        go_enter Tryz.func51, Tryz.ntmps51
        go_wp2_with fail
        refine HN.out.mono ?_
        rintro e w1 ⟨rfl, hb1⟩
        have c1 := keepl hb1 HC.out
        have f1 : w1.frozen? ⟨g, 0, none⟩ = false := (hb1.frozen (p := ⟨g, 0, none⟩) hg).trans HF.out
        have M1 := Mut.of_below (g := g) hb1
        clear hb1
        go_wp2
        go_ret
        exact ⟨rfl, M1.set _, by go_simp, by go_simp⟩
      · cases b
        · obtain rfl : q = false := by rw [hq]; rfl
          clear hq
          go_enter Tryz.func51, Tryz.ntmps51
          go_wp2_with fail
          refine HN.out.mono ?_
          rintro e w1 ⟨rfl, hb1⟩
          have c1 := keepl hb1 HC.out
          have f1 : w1.frozen? ⟨g, 0, none⟩ = false := (hb1.frozen (p := ⟨g, 0, none⟩) hg).trans HF.out
          have M1 := Mut.of_below (g := g) hb1
          clear hb1
          go_wp2
          go_ret
          exact ⟨rfl, M1.set _, by go_simp, by go_simp⟩
        · have hq' : (n != -1) = q := by rw [hq]; rfl
          clear hq
          go_enter Tryz.func51, Tryz.ntmps51
          go_wp2_with fail
          refine HN.out.mono ?_
          rintro e w1 ⟨rfl, hb1⟩
          have c1 := keepl hb1 HC.out
          have f1 : w1.frozen? ⟨g, 0, none⟩ = false := (hb1.frozen (p := ⟨g, 0, none⟩) hg).trans HF.out
          have M1 := Mut.of_below (g := g) hb1
          clear hb1
          go_wp2
          go_ret
          exact ⟨rfl, M1.set _, by go_simp, by go_simp⟩
    exact hstart _ rfl
end Go.Proofs.YtdclokpoeaehlaaGreatDoor
