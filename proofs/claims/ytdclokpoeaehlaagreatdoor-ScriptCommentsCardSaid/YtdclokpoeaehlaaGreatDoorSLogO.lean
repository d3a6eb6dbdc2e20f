/- log.Parse. -/
import Derived.Test.YtdclokpoeaehlaaGreatDoorGg
namespace Go.Proofs.YtdclokpoeaehlaaGreatDoor
set_option linter.all false
open Go.RowKit

theorem tabs_mut {g : Nat} {w w' : World} (h : Tabs w) (hm : Mut g w w') (hg : 9 < g) : Tabs w' := by
  obtain ⟨m, hm'⟩ := h.len
  obtain ⟨t1, p1, h1⟩ := h.syn
  obtain ⟨t2, p2, h2⟩ := h.rng
  refine ⟨hm.var h.tab ?_, ⟨m, hm.cell ?_ hm'⟩, ⟨t1, p1, hm.var h1 ?_⟩, ⟨t2, p2, hm.var h2 ?_⟩⟩
  · rw [show Tryz.prog.globalNamed "internal/strconv.uint64pow10" = some 9 by kernel_rfl]; intro e; injection e with e; omega
  · omega
  · rw [show Tryz.prog.globalNamed "strconv.ErrSyntax" = some 6 by kernel_rfl]; intro e; injection e with e; omega
  · rw [show Tryz.prog.globalNamed "strconv.ErrRange" = some 7 by kernel_rfl]; intro e; injection e with e; omega
theorem tabs_lt {w : World} (h : Tabs w) : 9 < w.heap.size := by
  have h1 : w.var? Tryz.prog "internal/strconv.uint64pow10" = some _ := h.tab
  unfold World.var? at h1
  rw [show Tryz.prog.globalNamed "internal/strconv.uint64pow10" = some 9 by kernel_rfl] at h1
  simp only [Option.bind_some] at h1
  rcases Nat.lt_or_ge 9 w.heap.size with h' | h'
  · exact h'
  · rw [Array.getElem?_eq_none h'] at h1; cases h1
/-- The flag in block g is q; beside it only new memory. -/
structure Rt (g : Nat) (q : Bool) (a w : World) : Prop where
  mut_ : Mut g a w
  cell : w.cell? ⟨g, 0, none⟩ = some (.bool q)
  free : w.frozen? ⟨g, 0, none⟩ = false
theorem frozen_alloc {w : World} {b o : Nat} (hb : b < w.heap.size) (x : Obj) : (w.alloc x).frozen? ⟨b, o, none⟩ = w.frozen? ⟨b, o, none⟩ := ((From.refl w).alloc x).out.frozen (p := ⟨b, o, none⟩) hb
theorem Rt.alloc {g : Nat} {q : Bool} {a w : World} (h : Rt g q a w) (o : Obj) : Rt g q a (w.alloc o) :=
  ⟨h.mut_.alloc o, ((From.refl w).alloc o).cell h.cell, (frozen_alloc (cell_lt h.cell) o).trans h.free⟩
/-- A new decision's block, still zero. -/
structure New4 (n : Nat) (w : World) : Prop where
  c0 : w.cell? ⟨n, 0, none⟩ = some (.int .i64 0)
  c1 : w.cell? ⟨n, 1, none⟩ = some (.int .i64 0)
  c2 : w.cell? ⟨n, 2, none⟩ = some (.int .i64 0)
  c3 : w.cell? ⟨n, 3, none⟩ = some (.int .i64 0)
  f0 : w.frozen? ⟨n, 0, none⟩ = false
  f1 : w.frozen? ⟨n, 1, none⟩ = false
  f2 : w.frozen? ⟨n, 2, none⟩ = false
  f3 : w.frozen? ⟨n, 3, none⟩ = false
theorem New4.mut {n g : Nat} {w w' : World} (h : New4 n w) (hm : Mut g w w') (hn : n ≠ g) : New4 n w' := by
  have hl := cell_lt h.c0
  exact ⟨hm.cell hn h.c0, hm.cell hn h.c1, hm.cell hn h.c2, hm.cell hn h.c3, (hm.frozen hn hl).trans h.f0, (hm.frozen hn hl).trans h.f1, (hm.frozen hn hl).trans h.f2, (hm.frozen hn hl).trans h.f3⟩
theorem New4.made (w : World) (e : TypeId) : New4 w.heap.size (w.alloc (.cells #[.int .i64 0, .int .i64 0, .int .i64 0, .int .i64 0] e)) := by
  refine ⟨?_, ?_, ?_, ?_, ?_, ?_, ?_, ?_⟩ <;> go_simp
theorem Mut.new {g n o : Nat} {a w : World} (h : Mut g a w) (hn : a.heap.size ≤ n) (v : Value) : Mut g a (w.setCell ⟨n, o, none⟩ v) := by
  refine ⟨h.os, h.tape, h.output, by simpa using h.size, fun k hk hg => ?_⟩
  rw [← h.block k hk hg]
  show (w.heap.modify n _)[k]? = w.heap[k]?
  rw [Array.getElem?_modify, if_neg (by omega)]
theorem have_then {P Q : Prop} (h : P) (k : P → Q) : Q := k h
theorem then_named {K : Act → World → Prop} {Q : Exit → Act → World → Prop} {e : Exit} {a : Act} {X : World} (h : ∀ W, W = X → Exit.then K Q e a W) : Exit.then K Q e a X := h X rfl
theorem setCell_ne {w : World} {b o b' o' : Nat} {v : Value} (h : b ≠ b' ∨ o ≠ o') : (w.setCell ⟨b, o, none⟩ v).cell? ⟨b', o', none⟩ = w.cell? ⟨b', o', none⟩ := by
  refine World.cell?_setCell_other _ _ _ _ ?_
  intro e
  injection e with e1 e2
  rcases h with h | h
  · exact h e1
  · exact h e2
theorem split_le (sep : List UInt8) (hsep : sep ≠ []) : ∀ (n : Nat) (s : List UInt8), s.length ≤ n → ∀ x ∈ Lib.split s sep, x.length ≤ s.length := by
  intro n
  induction n with
  | zero =>
    intro s hn x hx
    obtain rfl : s = [] := List.eq_nil_of_length_eq_zero (by omega)
    have hge := Lib.index_ge ([] : List UInt8) sep
    by_cases h : Lib.index ([] : List UInt8) sep = -1
    · rw [split_miss h] at hx; rw [List.mem_singleton.1 hx]; exact Nat.le_refl _
    · have := Lib.index_room [] sep (by omega)
      have h1 : 0 < sep.length := List.length_pos_iff.2 hsep
      simp only [List.length_nil] at this
      omega
  | succ n ih =>
    intro s hn x hx
    have hge := Lib.index_ge s sep
    by_cases h : Lib.index s sep = -1
    · rw [split_miss h] at hx; rw [List.mem_singleton.1 hx]; exact Nat.le_refl _
    · obtain ⟨i, hi⟩ : ∃ i : Nat, Lib.index s sep = i := ⟨(Lib.index s sep).toNat, by omega⟩
      have hr := Lib.index_room s sep (by omega)
      have h1 : 0 < sep.length := List.length_pos_iff.2 hsep
      rw [split_hit hsep hi] at hx
      rcases List.mem_cons.1 hx with rfl | hx
      · rw [List.length_take]; omega
      · have := ih (s.drop (i + sep.length)) (by rw [List.length_drop]; omega) x hx
        rw [List.length_drop] at this
        omega
theorem strAt_le {xs : List (List UInt8)} {n : Nat} (h : ∀ x ∈ xs, x.length ≤ n) (j : Nat) : (strAt xs j).length ≤ n := by
  unfold strAt
  rw [List.getD_eq_getElem?_getD]
  cases hj : xs[j]? with
  | none => simp
  | some x => exact h x (List.mem_of_getElem? hj)
set_option maxHeartbeats 8000000 in
set_option maxRecDepth 100000 in
theorem lparse_any (s : ByteArray) (w : World) (hs : s.size < 4294967281) (ht : Tabs w) (hn : NamesAt w) :
    Calls Tryz.prog 19 #[.string s] w fun e w' => e = .returned (.tuple #[decV (parseD s.data.toList), .bool (parseB s.data.toList)]) ∧ Below w.heap.size w w' := by
  have hb : Below w.heap.size w (w.alloc (.cells #[.int .i64 0, .int .i64 0, .int .i64 0, .int .i64 0] 23)) := (Below.refl _ _).alloc (Nat.le_refl _) _
  have hlt0 : w.heap.size < (w.alloc (.cells #[.int .i64 0, .int .i64 0, .int .i64 0, .int .i64 0] 23)).heap.size := by simp
  have I0 := split_any s [32] (w.alloc (.cells #[.int .i64 0, .int .i64 0, .int .i64 0, .int .i64 0] 23)) hs (by simp) (ht.below hb)
  obtain ⟨x0, r, hxs⟩ : ∃ x0 r, Lib.split s.data.toList [32] = x0 :: r := by
    cases h : Lib.split s.data.toList [32] with
    | nil => exact absurd h (split_ne _ _)
    | cons a b => exact ⟨a, b, rfl⟩
  have hwl : ∀ j, (strAt (Lib.split s.data.toList [32]) j).length ≤ 140737488351232 := fun j => Nat.le_trans (strAt_le (split_le [32] (by simp) _ s.data.toList (Nat.le_refl _)) j) (by rw [size_toList]; omega)
  rw [hxs] at I0 hwl
  have I := Lib.hid I0
  have HB := Lib.hid hb
  have HWL := Lib.hid hwl
  clear I0 hwl
  have HT := Lib.hid ht
  have HN := Lib.hid hn
  have HXS := Lib.hid hxs
  clear hb ht hn hxs
  go_enter Tryz.func19, Tryz.ntmps19
  go_wp2_with fail
  refine I.out.mono ?_
  rintro e w1 ⟨b, cap, rfl, hlt, hcells, hb1⟩
  have HC := Lib.hid hcells
  have HZ : Hid (∀ w', From w1 w' → (w'.cell? ⟨w.heap.size, 0, none⟩ = some (.int .i64 0) ∧ w'.cell? ⟨w.heap.size, 1, none⟩ = some (.int .i64 0) ∧ w'.cell? ⟨w.heap.size, 2, none⟩ = some (.int .i64 0) ∧ w'.cell? ⟨w.heap.size, 3, none⟩ = some (.int .i64 0) ∧ w'.frozen? ⟨w.heap.size, 0, none⟩ = false ∧ w'.frozen? ⟨w.heap.size, 1, none⟩ = false ∧ w'.frozen? ⟨w.heap.size, 2, none⟩ = false ∧ w'.frozen? ⟨w.heap.size, 3, none⟩ = false)) := fun w' hf => by
    have hf1 : From (w.alloc (.cells #[.int .i64 0, .int .i64 0, .int .i64 0, .int .i64 0] 23)) w' := From.step ⟨hb1⟩ (hf.out.mono (Nat.le_refl _))
    refine ⟨hf1.cell (by go_simp), hf1.cell (by go_simp), hf1.cell (by go_simp), hf1.cell (by go_simp), ?_, ?_, ?_, ?_⟩
    all_goals (rw [hf1.out.frozen (p := ⟨w.heap.size, _, none⟩) hlt0]; go_simp)
  have hw1 : w.heap.size < w1.heap.size := Nat.lt_of_lt_of_le hlt0 hb1.size
  have B1 : Hid (Below w.heap.size w w1) := HB.out.trans (hb1.mono HB.out.size)
  have c0 : w1.cell? ⟨b, 0, none⟩ = some (.string (str x0)) := hcells 0 (by simp)
  have HX : Hid (Calls Tryz.prog 50 #[.slice (some ⟨0, 1, none⟩) 11 11, .string (str x0)] w1.drew fun e w' => e = .returned (.int .i64 ((kindOf x0 : Int) - 1)) ∧ w' = w1.drew) :=
    index_any x0 w1.drew (HN.out.below B1.out |>.below (From.refl w1).drew.out)
  have HXq : Hid (∀ n, Calls Tryz.prog 50 #[.slice (some ⟨0, 1, none⟩) 11 11, .string (str x0)] (w1.drewN n) fun e w' => e = .returned (.int .i64 ((kindOf x0 : Int) - 1)) ∧ w' = w1.drewN n) := fun n =>
    index_any x0 _ (HN.out.below B1.out |>.below ((From.refl w1).drewN n).out)
  clear hcells hb1
  have hkle := kindOf_le x0
  go_wp2
  go_quiet ((go_at_call 50; exact Calls.quiet_of_same (HXq.out _)))
  obtain ⟨W1, hW1⟩ : ∃ W1, W1 = w1.drewN nq := ⟨_, rfl⟩
  rw [← hW1]
  have FW1 : From w1 W1 := by rw [hW1]; exact (From.refl w1).drewN nq
  clear hW1
  have B2 : Hid (Below w.heap.size w W1) := B1.out.trans (FW1.out.mono (Nat.le_of_lt hw1))
  have hw2 : w.heap.size < W1.heap.size := Nat.lt_of_lt_of_le hw1 FW1.out.size
  have hlt2 : b < W1.heap.size := Nat.lt_of_lt_of_le hlt FW1.out.size
  by_cases hl : r.length = 3
  · by_cases hk0 : kindOf x0 = 0
    · have HP := Lib.hid (parse_none (dparse_kind HXS.out hk0))
      have hb0 : ((kindOf x0 : Int) == 0) = true := by rw [beq_iff_eq]; omega
      have hl2 : r.length + 1 = 4 := by omega
      obtain ⟨z0, z1, z2, z3, zf0, zf1, zf2, zf3⟩ := HZ.out W1 FW1
      have HK := Lib.hid hk0
      clear hk0 hl
      generalize kindOf x0 = K at *
      generalize r.length = m at *
      go_wp2
      refine bodyPost_ret (v := .tuple #[decV ⟨0, 0, 0, 0⟩, .bool false]) ?_ rfl ⟨by rw [HP.out.1, HP.out.2], ?_⟩
      · simp only [results, Tryz.results19]
        go_simp
      · have hbw := B2.out
        clear HP
        repeat (first | (with_reducible exact hbw) | refine below_set ?_ (Nat.le_refl _) _)
    · obtain ⟨y1, y2, y3, hr⟩ : ∃ y1 y2 y3, r = [y1, y2, y3] := by
        match r, hl with
        | [a, b, c], _ => exact ⟨a, b, c, rfl⟩
      subst hr
      have hb0 : ((kindOf x0 : Int) == 0) = false := by rw [beq_eq_false_iff_ne]; omega
      have HK0 := Lib.hid hk0
      have c1 : w1.cell? ⟨b, 1, none⟩ = some (.string (str y1)) := HC.out 1 (by simp)
      have c2 : w1.cell? ⟨b, 2, none⟩ = some (.string (str y2)) := HC.out 2 (by simp)
      have c3 : w1.cell? ⟨b, 3, none⟩ = some (.string (str y3)) := HC.out 3 (by simp)
      have L1 := HWL.out 1
      have L2 := HWL.out 2
      have L3 := HWL.out 3
      clear hk0 hl
      generalize hKK : kindOf x0 = K at *
      have HKK := Lib.hid hKK
      clear hKK
      go_wp2
      refine wp_named fun W hW => ?_
      have FV : From W1 W := by rw [hW]; exact ((From.refl W1).alloc _)
      have FW : From w1 W := FW1.trans FV
      have R0 : Rt W1.heap.size true W W.drew := ⟨(Mut.refl _ _).drew, by rw [hW]; go_simp, by rw [hW]; go_simp⟩
      have R0b : Rt W1.heap.size true W ((W.alloc (.cells #[.int .i64 0, .int .i64 0, .int .i64 0, .int .i64 0] 23)).drew) := ⟨((Mut.refl _ _).alloc _).drew, by rw [hW]; go_simp, by rw [hW]; go_simp⟩
      have D0 : New4 W.heap.size ((W.alloc (.cells #[.int .i64 0, .int .i64 0, .int .i64 0, .int .i64 0] 23)).drew) := by refine ⟨?_, ?_, ?_, ?_, ?_, ?_, ?_, ?_⟩ <;> go_simp
      have hgW : W1.heap.size < W.heap.size := by rw [hW]; simp
      have d1 := FW.cell c1
      have d2 := FW.cell c2
      have d3 := FW.cell c3
      have hbg : b ≠ W1.heap.size := by omega
      have hwg : w.heap.size ≠ W1.heap.size := by omega
      have TW : Tabs W := (HT.out.below B2.out).from_ FV
      have TM : Hid (∀ w', Mut W1.heap.size W w' → Tabs w') := fun w' hm => tabs_mut TW hm (Nat.lt_of_lt_of_le (tabs_lt HT.out) (by omega))
      have H1 : Hid (∀ w' q, Rt W1.heap.size q W w' → Calls Tryz.prog 51 #[.string (str y1), .pointer (some ⟨W1.heap.size, 0, none⟩)] w' fun e w'' => e = .returned (.int .i64 (vI y1)) ∧ Mut W1.heap.size w' w'' ∧ Rt W1.heap.size (q && vB y1) W w'') := fun w' q hr => (val_any y1 _ q w' L1 (TM.out w' hr.mut_) hr.cell hr.free).mono fun e w'' ⟨he, hm, hc, hf⟩ => ⟨he, hm, hr.mut_.trans hm, hc, hf⟩
      have H2 : Hid (∀ w' q, Rt W1.heap.size q W w' → Calls Tryz.prog 51 #[.string (str y2), .pointer (some ⟨W1.heap.size, 0, none⟩)] w' fun e w'' => e = .returned (.int .i64 (vI y2)) ∧ Mut W1.heap.size w' w'' ∧ Rt W1.heap.size (q && vB y2) W w'') := fun w' q hr => (val_any y2 _ q w' L2 (TM.out w' hr.mut_) hr.cell hr.free).mono fun e w'' ⟨he, hm, hc, hf⟩ => ⟨he, hm, hr.mut_.trans hm, hc, hf⟩
      have H3 : Hid (∀ w' q, Rt W1.heap.size q W w' → Calls Tryz.prog 51 #[.string (str y3), .pointer (some ⟨W1.heap.size, 0, none⟩)] w' fun e w'' => e = .returned (.int .i64 (vI y3)) ∧ Mut W1.heap.size w' w'' ∧ Rt W1.heap.size (q && vB y3) W w'') := fun w' q hr => (val_any y3 _ q w' L3 (TM.out w' hr.mut_) hr.cell hr.free).mono fun e w'' ⟨he, hm, hc, hf⟩ => ⟨he, hm, hr.mut_.trans hm, hc, hf⟩
      have HS : Hid (∀ w', Mut W1.heap.size W w' → (w'.cell? ⟨b, 1, none⟩ = some (.string (str y1)) ∧ w'.cell? ⟨b, 2, none⟩ = some (.string (str y2)) ∧ w'.cell? ⟨b, 3, none⟩ = some (.string (str y3)) ∧ Mut W1.heap.size W w')) := fun w' hm => ⟨hm.cell hbg d1, hm.cell hbg d2, hm.cell hbg d3, hm⟩
      obtain ⟨z0, z1, z2, z3, zf0, zf1, zf2, zf3⟩ := HZ.out W FW
      have hwW : w.heap.size < W.heap.size := by omega
      have HZM : Hid (∀ w', Mut W1.heap.size W w' → (w'.cell? ⟨w.heap.size, 0, none⟩ = some (.int .i64 0) ∧ w'.cell? ⟨w.heap.size, 1, none⟩ = some (.int .i64 0) ∧ w'.cell? ⟨w.heap.size, 2, none⟩ = some (.int .i64 0) ∧ w'.cell? ⟨w.heap.size, 3, none⟩ = some (.int .i64 0) ∧ w'.frozen? ⟨w.heap.size, 0, none⟩ = false ∧ w'.frozen? ⟨w.heap.size, 1, none⟩ = false ∧ w'.frozen? ⟨w.heap.size, 2, none⟩ = false ∧ w'.frozen? ⟨w.heap.size, 3, none⟩ = false)) := fun w' hm =>
        ⟨hm.cell hwg z0, hm.cell hwg z1, hm.cell hwg z2, hm.cell hwg z3, (hm.frozen hwg hwW).trans zf0, (hm.frozen hwg hwW).trans zf1, (hm.frozen hwg hwW).trans zf2, (hm.frozen hwg hwW).trans zf3⟩
      have HBM : Hid (∀ w', Mut W1.heap.size W w' → Below w.heap.size w w') := fun w' hm => hm.below (B2.out.trans (FV.out.mono B2.out.size)) (by omega) (by omega)
      clear hW z0 z1 z2 z3 zf0 zf1 zf2 zf3 c0 c1 c2 c3 d1 d2 d3 TW L1 L2 L3 hlt hlt2
      have n0 : W.heap.size ≠ W1.heap.size := by omega
      have n0' : ¬ W.heap.size = w.heap.size := by omega
      go_region_held3 (fun w' => w'.cell? ⟨b, 1, none⟩ = some (.string (str y1)) ∧ w'.cell? ⟨b, 2, none⟩ = some (.string (str y2)) ∧ w'.cell? ⟨b, 3, none⟩ = some (.string (str y3)) ∧ Mut W1.heap.size W w')
        (first
          | (with_reducible exact HS.out _ ‹_›)
          | (with_reducible exact HS.out _ (Mut.drew ‹_›))
          | (with_reducible exact HS.out _ (Mut.alloc ‹_› _))
          | (with_reducible exact HS.out _ R0.mut_)
          | (with_reducible exact HS.out _ R0b.mut_)
          | (with_reducible exact HS.out _ (Rt.mut_ ‹_›))
          | (with_reducible exact HS.out _ (Mut.alloc (Rt.mut_ ‹_›) _))
          | (refine HS.out _ ?_; with_reducible exact Mut.new (Mut.new (Mut.new (Mut.new R3.mut_ ‹_› _) ‹_› _) ‹_› _) ‹_› _))
        (first
        | (go_at_call 51; ((with_reducible refine (H1.out _ true R0).mono ?_)); rintro e w2 ⟨rfl, N1, R1⟩; have s2 := R1.mut_.size; have n2 : w2.heap.size ≠ W1.heap.size := (by omega); clear N1)
        | (go_at_call 51; ((with_reducible refine (H1.out _ true R0b).mono ?_)); rintro e w2 ⟨rfl, N1, R1⟩; have s2 := R1.mut_.size; have n2 : w2.heap.size ≠ W1.heap.size := (by omega); have D1 := D0.mut N1 n0; clear N1)
        | (go_at_call 51; ((with_reducible refine (H2.out _ _ R1).mono ?_)); rintro e w3 ⟨rfl, N2, R2⟩; have s3 := R2.mut_.size; have n3 : w3.heap.size ≠ W1.heap.size := (by omega); have D2 := D1.mut N2 n0; clear N2)
        | (go_at_call 51; ((with_reducible refine (H2.out _ _ R1).mono ?_)); rintro e w3 ⟨rfl, N2, R2⟩; have s3 := R2.mut_.size; have n3 : w3.heap.size ≠ W1.heap.size := (by omega); clear N2)
        | (go_at_call 51; ((with_reducible refine (H2.out _ _ (R1.alloc _)).mono ?_)); rintro e w3 ⟨rfl, N2, R2⟩; have s3 := R2.mut_.size; have n3 : w3.heap.size ≠ W1.heap.size := (by omega); have D2 := (New4.made w2 23).mut N2 n2; clear N2)
        | (go_at_call 51; ((with_reducible refine (H3.out _ _ R2).mono ?_)); rintro e w4 ⟨rfl, N3, R3⟩; have s4 := R3.mut_.size; have D3 := D2.mut N3 (by assumption); have lo : W.heap.size ≤ _ := (by first | exact Nat.le_refl _ | exact s2); obtain ⟨q0, q1, q2, q3, qf0, qf1, qf2, qf3⟩ := D3; clear N3)
        | (go_at_call 51; ((with_reducible refine (H3.out _ _ R2).mono ?_)); rintro e w4 ⟨rfl, N3, R3⟩; have s4 := R3.mut_.size; clear N3)
        | (go_at_call 51; ((with_reducible refine (H3.out _ _ (R2.alloc _)).mono ?_)); rintro e w4 ⟨rfl, N3, R3⟩; have s4 := R3.mut_.size; have D3 := (New4.made w3 23).mut N3 n3; obtain ⟨q0, q1, q2, q3, qf0, qf1, qf2, qf3⟩ := D3; clear N3)
        | fail)
      all_goals
        have z := HZM.out w4 R3.mut_
        obtain ⟨z0, z1, z2, z3, zf0, zf1, zf2, zf3⟩ := z
        have g3 := R3.cell
        have hw4 : w.heap.size < w4.heap.size := by have := s4; omega
        have hg4 : W1.heap.size < w4.heap.size := by have := s4; omega
        have HB4 := Lib.hid (HBM.out w4 R3.mut_)
        refine then_named fun X hX => ?_
        have x0 : X.cell? ⟨W1.heap.size, 0, none⟩ = some (.bool (true && vB y1 && vB y2 && vB y3)) := by rw [hX]; first | (go_simp; done) | (rw [setCell_ne (.inl (by omega)), setCell_ne (.inl (by omega)), setCell_ne (.inl (by omega)), setCell_ne (.inl (by omega))]; exact g3)
        have x1 : ∀ o v, w4.cell? ⟨w.heap.size, o, none⟩ = some v → X.cell? ⟨w.heap.size, o, none⟩ = some v := fun o v hv => by rw [hX]; first | (rw [setCell_ne (.inl (by omega)), setCell_ne (.inl (by omega)), setCell_ne (.inl (by omega)), setCell_ne (.inl (by omega))]; exact hv) | exact ((From.refl w4).alloc _).cell hv
        have x2 : ∀ o, w4.frozen? ⟨w.heap.size, o, none⟩ = false → X.frozen? ⟨w.heap.size, o, none⟩ = false := fun o hv => by rw [hX]; first | (rw [World.frozen?_setCell, World.frozen?_setCell, World.frozen?_setCell, World.frozen?_setCell]; exact hv) | exact (frozen_alloc hw4 _).trans hv
        have y0 := x1 0 _ z0
        have y1' := x1 1 _ z1
        have y2' := x1 2 _ z2
        have y3' := x1 3 _ z3
        have yf0 := x2 0 zf0
        have yf1 := x2 1 zf1
        have yf2 := x2 2 zf2
        have yf3 := x2 3 zf3
        have HBX : Hid (Below w.heap.size w X) := by
          rw [hX]
          have hbw := HB4.out
          show Below w.heap.size w _
          repeat (first | (with_reducible exact hbw) | refine below_set ?_ (by omega) _ | refine Below.alloc ?_ (by omega) _)
        first
          | (refine have_then (P := X.cell? ⟨W.heap.size, 0, none⟩ = some (.int .i64 K) ∧ X.cell? ⟨W.heap.size, 1, none⟩ = some (.int .i64 (vI y1)) ∧ X.cell? ⟨W.heap.size, 2, none⟩ = some (.int .i64 (vI y2)) ∧ X.cell? ⟨W.heap.size, 3, none⟩ = some (.int .i64 (vI y3))) ?_ (fun ee => ?_); focus (rw [hX]; refine ⟨?_, ?_, ?_, ?_⟩ <;> (go_simp; done)))
          | (refine have_then (P := X.cell? ⟨w2.heap.size, 0, none⟩ = some (.int .i64 K) ∧ X.cell? ⟨w2.heap.size, 1, none⟩ = some (.int .i64 (vI y1)) ∧ X.cell? ⟨w2.heap.size, 2, none⟩ = some (.int .i64 (vI y2)) ∧ X.cell? ⟨w2.heap.size, 3, none⟩ = some (.int .i64 (vI y3))) ?_ (fun ee => ?_); focus (rw [hX]; refine ⟨?_, ?_, ?_, ?_⟩ <;> (go_simp; done)))
          | (refine have_then (P := X.cell? ⟨w3.heap.size, 0, none⟩ = some (.int .i64 K) ∧ X.cell? ⟨w3.heap.size, 1, none⟩ = some (.int .i64 (vI y1)) ∧ X.cell? ⟨w3.heap.size, 2, none⟩ = some (.int .i64 (vI y2)) ∧ X.cell? ⟨w3.heap.size, 3, none⟩ = some (.int .i64 (vI y3))) ?_ (fun ee => ?_); focus (rw [hX]; refine ⟨?_, ?_, ?_, ?_⟩ <;> (go_simp; done)))
          | (refine have_then (P := X.cell? ⟨w4.heap.size, 0, none⟩ = some (.int .i64 K) ∧ X.cell? ⟨w4.heap.size, 1, none⟩ = some (.int .i64 (vI y1)) ∧ X.cell? ⟨w4.heap.size, 2, none⟩ = some (.int .i64 (vI y2)) ∧ X.cell? ⟨w4.heap.size, 3, none⟩ = some (.int .i64 (vI y3))) ?_ (fun ee => ?_); focus (rw [hX]; refine ⟨?_, ?_, ?_, ?_⟩ <;> (go_simp; done)))
          | fail
        obtain ⟨e0, e1, e2, e3⟩ := ee
        clear hX z0 z1 z2 z3 zf0 zf1 zf2 zf3 g3 x1 x2 R0 R0b D0 R1 R2 R3
        cases hv : (true && vB y1 && vB y2 && vB y3)
        · have hp : dparse s.data.toList = none := by
            simp only [Bool.true_and, Bool.and_eq_false_iff] at hv
            rcases hv with (hv | hv) | hv
            · exact dparse_val HXS.out (j := 0) rfl (v_none hv)
            · exact dparse_val HXS.out (j := 1) rfl (v_none hv)
            · exact dparse_val HXS.out (j := 2) rfl (v_none hv)
          have HP := Lib.hid (parse_none hp)
          rw [hv] at x0
          clear hp hv
          go_wp2
          refine bodyPost_ret (v := .tuple #[decV ⟨0, 0, 0, 0⟩, .bool false]) ?_ rfl ⟨by rw [HP.out.1, HP.out.2], ?_⟩
          · simp only [results, Tryz.results19]
            go_simp
          · have hbw := HBX.out
            clear HP
            repeat (first | (with_reducible exact hbw) | refine below_set ?_ (Nat.le_refl _) _)
        · have hp : dparse s.data.toList = some ⟨K, vI y1, vI y2, vI y3⟩ := by
            simp only [Bool.true_and, Bool.and_eq_true] at hv
            rw [← HKK.out]
            exact dparse_some HXS.out (by rw [HKK.out]; exact HK0.out) (v_some hv.1.1) (v_some hv.1.2) (v_some hv.2)
          have HP := Lib.hid (parse_some hp)
          rw [hv] at x0
          clear hp hv
          go_wp2
          refine bodyPost_ret (v := .tuple #[decV ⟨K, vI y1, vI y2, vI y3⟩, .bool true]) ?_ rfl ⟨by rw [HP.out.1, HP.out.2], ?_⟩
          · simp only [results, Tryz.results19]
            go_simp
          · have hbw := HBX.out
            clear HP
            repeat (first | (with_reducible exact hbw) | refine below_set ?_ (Nat.le_refl _) _)
  · have HP := Lib.hid (parse_none (dparse_len (l := s.data.toList) (by rw [HXS.out]; simp only [List.length_cons]; omega)))
    have hl2 : ¬ (r.length + 1 = 4) := by omega
    obtain ⟨z0, z1, z2, z3, zf0, zf1, zf2, zf3⟩ := HZ.out W1 FW1
    clear hl
    generalize kindOf x0 = K at *
    generalize r.length = m at *
    go_wp2
    refine bodyPost_ret (v := .tuple #[decV ⟨0, 0, 0, 0⟩, .bool false]) ?_ rfl ⟨by rw [HP.out.1, HP.out.2], ?_⟩
    · simp only [results, Tryz.results19]
      go_simp
    · have hbw := B2.out
      clear HP
      repeat (first | (with_reducible exact hbw) | refine below_set ?_ (Nat.le_refl _) _)
end Go.Proofs.YtdclokpoeaehlaaGreatDoor
