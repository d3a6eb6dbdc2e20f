/- The names of kinds and the words of values, in log and in its reference. -/
import Derived.Test.YtdclokpoeaehlaaGreatDoorGb
namespace Go.Proofs.YtdclokpoeaehlaaGreatDoor
set_option linter.all false
open Go.RowKit

theorem below_grown (w : World) (k : Nat) (os : Array Obj) : Below w.heap.size w (Sort.grow (w.drewN k) os) :=
  ⟨rfl, rfl, rfl, by show w.heap.size ≤ (w.heap ++ os).size; rw [Array.size_append]; omega, fun j hj => by show (w.heap ++ os)[j]? = w.heap[j]?; rw [Array.getElem?_append_left hj]⟩
theorem var_below {n : String} {w w' : World} {cs : Array Value} (h : w.var? Tryz.prog n = some cs) (hb : Below w.heap.size w w') : w'.var? Tryz.prog n = some cs := by
  unfold World.var? at h ⊢
  cases hg : Tryz.prog.globalNamed n with
  | none => rw [hg] at h; cases h
  | some g =>
    rw [hg] at h
    simp only [Option.bind_some] at h ⊢
    have hlt : g < w.heap.size := by
      rcases Nat.lt_or_ge g w.heap.size with h' | h'
      · exact h'
      · rw [Array.getElem?_eq_none h'] at h; cases h
    rw [hb.block g hlt]
    exact h
/-- What the log and the script read: tables, sentinels. -/
structure Tabs (w : World) : Prop where
  tab : Lib.TabIs Tryz.prog w "internal/strconv.uint64pow10" .u64 Lib.pow10Tab
  len : ∃ m, w.cell? ⟨8, 0, none⟩ = some (.int .i64 m)
  syn : ∃ tp p, w.var? Tryz.prog "strconv.ErrSyntax" = some #[.iface tp p]
  rng : ∃ tp p, w.var? Tryz.prog "strconv.ErrRange" = some #[.iface tp p]
theorem Tabs.below {w w' : World} (h : Tabs w) (hb : Below w.heap.size w w') : Tabs w' := by
  obtain ⟨m, hm⟩ := h.len
  obtain ⟨t1, p1, h1⟩ := h.syn
  obtain ⟨t2, p2, h2⟩ := h.rng
  exact ⟨var_below h.tab hb, ⟨m, keepl hb hm⟩, ⟨t1, p1, var_below h1 hb⟩, ⟨t2, p2, var_below h2 hb⟩⟩
theorem Tabs.from_ {w w' : World} (h : Tabs w) (hb : From w w') : Tabs w' := h.below hb.out
/-- log.names holds the names. -/
def NamesAt (w : World) : Prop := ∀ i, i < 12 → w.cell? ⟨0, i, none⟩ = some (.string (str (decNames.getD i [])))
theorem NamesAt.below {w w' : World} (h : NamesAt w) (hb : Below w.heap.size w w') : NamesAt w' := fun i hi => keepl hb (h i hi)
set_option maxHeartbeats 4000000 in
theorem lname_any (c : Int) (w : World) (hg : NamesAt w) : Calls Tryz.prog 15 #[.int .i64 c] w fun e w' => e = .returned (.string (str (dname c))) ∧ w = w' := by
  by_cases hp : 0 ≤ c ∧ c < 12
  · have hc : c = 0 ∨ c = 1 ∨ c = 2 ∨ c = 3 ∨ c = 4 ∨ c = 5 ∨ c = 6 ∨ c = 7 ∨ c = 8 ∨ c = 9 ∨ c = 10 ∨ c = 11 := by omega
    rcases hc with rfl | rfl | rfl | rfl | rfl | rfl | rfl | rfl | rfl | rfl | rfl | rfl
    · have h := hg 0 (by omega); clear hg; simp only [decNames, List.getD_eq_getElem?_getD, List.getElem?_cons_zero, List.getElem?_cons_succ, Option.getD_some, str] at h
      go_enter Tryz.func15, Tryz.ntmps15; go_wp2; go_ret; exact ⟨rfl, rfl⟩
    · have h := hg 1 (by omega); clear hg; simp only [decNames, List.getD_eq_getElem?_getD, List.getElem?_cons_zero, List.getElem?_cons_succ, Option.getD_some, str] at h
      go_enter Tryz.func15, Tryz.ntmps15; go_wp2; go_ret; exact ⟨rfl, rfl⟩
    · have h := hg 2 (by omega); clear hg; simp only [decNames, List.getD_eq_getElem?_getD, List.getElem?_cons_zero, List.getElem?_cons_succ, Option.getD_some, str] at h
      go_enter Tryz.func15, Tryz.ntmps15; go_wp2; go_ret; exact ⟨rfl, rfl⟩
    · have h := hg 3 (by omega); clear hg; simp only [decNames, List.getD_eq_getElem?_getD, List.getElem?_cons_zero, List.getElem?_cons_succ, Option.getD_some, str] at h
      go_enter Tryz.func15, Tryz.ntmps15; go_wp2; go_ret; exact ⟨rfl, rfl⟩
    · have h := hg 4 (by omega); clear hg; simp only [decNames, List.getD_eq_getElem?_getD, List.getElem?_cons_zero, List.getElem?_cons_succ, Option.getD_some, str] at h
      go_enter Tryz.func15, Tryz.ntmps15; go_wp2; go_ret; exact ⟨rfl, rfl⟩
    · have h := hg 5 (by omega); clear hg; simp only [decNames, List.getD_eq_getElem?_getD, List.getElem?_cons_zero, List.getElem?_cons_succ, Option.getD_some, str] at h
      go_enter Tryz.func15, Tryz.ntmps15; go_wp2; go_ret; exact ⟨rfl, rfl⟩
    · have h := hg 6 (by omega); clear hg; simp only [decNames, List.getD_eq_getElem?_getD, List.getElem?_cons_zero, List.getElem?_cons_succ, Option.getD_some, str] at h
      go_enter Tryz.func15, Tryz.ntmps15; go_wp2; go_ret; exact ⟨rfl, rfl⟩
    · have h := hg 7 (by omega); clear hg; simp only [decNames, List.getD_eq_getElem?_getD, List.getElem?_cons_zero, List.getElem?_cons_succ, Option.getD_some, str] at h
      go_enter Tryz.func15, Tryz.ntmps15; go_wp2; go_ret; exact ⟨rfl, rfl⟩
    · have h := hg 8 (by omega); clear hg; simp only [decNames, List.getD_eq_getElem?_getD, List.getElem?_cons_zero, List.getElem?_cons_succ, Option.getD_some, str] at h
      go_enter Tryz.func15, Tryz.ntmps15; go_wp2; go_ret; exact ⟨rfl, rfl⟩
    · have h := hg 9 (by omega); clear hg; simp only [decNames, List.getD_eq_getElem?_getD, List.getElem?_cons_zero, List.getElem?_cons_succ, Option.getD_some, str] at h
      go_enter Tryz.func15, Tryz.ntmps15; go_wp2; go_ret; exact ⟨rfl, rfl⟩
    · have h := hg 10 (by omega); clear hg; simp only [decNames, List.getD_eq_getElem?_getD, List.getElem?_cons_zero, List.getElem?_cons_succ, Option.getD_some, str] at h
      go_enter Tryz.func15, Tryz.ntmps15; go_wp2; go_ret; exact ⟨rfl, rfl⟩
    · have h := hg 11 (by omega); clear hg; simp only [decNames, List.getD_eq_getElem?_getD, List.getElem?_cons_zero, List.getElem?_cons_succ, Option.getD_some, str] at h
      go_enter Tryz.func15, Tryz.ntmps15; go_wp2; go_ret; exact ⟨rfl, rfl⟩
  · have e : dname c = [] := by unfold dname; rw [if_neg hp]
    rw [e]
    clear hg e
    by_cases h0 : c < 0
    · go_enter Tryz.func15, Tryz.ntmps15; go_wp2; go_ret; exact ⟨rfl, rfl⟩
    · have h6 : 12 ≤ c := by omega
      clear hp
      go_enter Tryz.func15, Tryz.ntmps15; go_wp2; go_ret; exact ⟨rfl, rfl⟩
set_option maxHeartbeats 4000000 in
theorem rname_any (c : Int) (w : World) : Calls Tryz.prog 16 #[.int .i64 c] w fun e w' => e = .returned (.string (str (dname c))) ∧ Below w.heap.size w w' := by
  by_cases hp : 1 ≤ c ∧ c < 12
  · have hc : c = 1 ∨ c = 2 ∨ c = 3 ∨ c = 4 ∨ c = 5 ∨ c = 6 ∨ c = 7 ∨ c = 8 ∨ c = 9 ∨ c = 10 ∨ c = 11 := by omega
    rcases hc with rfl | rfl | rfl | rfl | rfl | rfl | rfl | rfl | rfl | rfl | rfl
    all_goals
      go_enter Tryz.func16, Tryz.ntmps16; go_wp2; go_ret; exact ⟨rfl, (Below.refl _ _).alloc (Nat.le_refl _) _⟩
  · have e : dname c = [] := by
      unfold dname
      by_cases h : 0 ≤ c ∧ c < 12
      · have : c = 0 := by omega
        subst this; rfl
      · rw [if_neg h]
    rw [e]
    clear e
    by_cases h0 : c < 1
    · go_enter Tryz.func16, Tryz.ntmps16; go_wp2; go_ret; exact ⟨rfl, (Below.refl _ _).alloc (Nat.le_refl _) _⟩
    · have h6 : 11 < c := by omega
      clear hp
      go_enter Tryz.func16, Tryz.ntmps16; go_wp2; go_ret; exact ⟨rfl, (Below.refl _ _).alloc (Nat.le_refl _) _⟩
set_option maxRecDepth 100000 in
theorem itoa_any (n : Int) (w : World) (h0 : -9223372036854775808 ≤ n) (h1 : n ≤ 9223372036854775807) (ht : Tabs w) :
    Calls Tryz.prog 79 #[.int .i64 n] w fun e w' => e = .returned (.string (str (Lib.itoa n))) ∧ Below w.heap.size w w' :=
  (Tryz.strconv_Itoa n h0 h1 w ht.tab).mono fun e w' ⟨he, k, os, hw⟩ => ⟨he, hw ▸ below_grown w k os⟩
set_option maxRecDepth 100000 in
theorem word_any (n : Int) (w : World) (h0 : -9223372036854775808 ≤ n) (h1 : n ≤ 9223372036854775807) (ht : Tabs w) :
    Calls Tryz.prog 47 #[.int .i64 n] w fun e w' => e = .returned (.string (str (dword n))) ∧ Below w.heap.size w w' := by
  have I := itoa_any n w h0 h1 ht
  by_cases hn : n = -1
  · subst hn
    go_enter Tryz.func47, Tryz.ntmps47
    go_wp2
    go_ret
    exact ⟨rfl, Below.refl _ _⟩
  · have e : dword n = Lib.itoa n := by unfold dword; rw [if_neg hn]
    rw [e]
    have hb : (n == -1) = false := by simp [hn]
    have I' := Lib.hid I
    clear I e hn ht
    go_enter Tryz.func47, Tryz.ntmps47
    go_wp2_with fail
    refine I'.out.mono ?_
    rintro e w1 ⟨rfl, hb⟩
    go_wp2
    go_ret
    exact ⟨rfl, hb⟩
set_option maxRecDepth 100000 in
theorem value_any (n : Int) (w : World) (h0 : -9223372036854775807 ≤ n) (h1 : n ≤ 9223372036854775807) :
    Calls Tryz.prog 48 #[.int .i64 n] w fun e w' => e = .returned (.string (str (32 :: dword n))) ∧ ∃ q, w' = w.drewN q := by
  by_cases hn : n = -1
  · subst hn
    go_enter Tryz.func48, Tryz.ntmps48
    go_wp2
    go_ret
    exact ⟨rfl, 0, rfl⟩
  · have e : dword n = Lib.itoa n := by unfold dword; rw [if_neg hn]
    rw [e]
    have hb : (n == -1) = false := by simp [hn]
    have I := Lib.hid (decimal_any n w h0 h1)
    have l1 := itoa_le n (by omega) h1
    have ha : ∀ w, (Op.stringOp .add ⟨#[32]⟩ (str (Lib.itoa n))).run Tryz.prog w = .ok (.string (str (32 :: Lib.itoa n))) w := fun w => add_str w [32] _ (by simp; omega)
    clear e hn l1
    go_enter Tryz.func48, Tryz.ntmps48
    go_wp2_with fail
    refine I.out.mono ?_
    rintro e w1 ⟨rfl, q, rfl⟩
    go_wp2
    go_ret
    exact ⟨rfl, _, rfl⟩
/-- The elements of a slice of strings, as strings. -/
theorem strs_at {w : World} {b off : Nat} {xs : List (List UInt8)} (h : ∀ j x, xs[j]? = some x → ∀ i u, (kStr.enc x)[i]? = some u → w.cell? ⟨b, off + j * kStr.size + i, none⟩ = some u) : ∀ (j : Nat) x, (xs.map str)[j]? = some x → w.cell? ⟨b, off + j, none⟩ = some (.string x) := by
  intro j x hx
  rw [List.getElem?_map] at hx
  cases hy : xs[j]? with
  | none => rw [hy] at hx; cases hx
  | some y =>
    rw [hy] at hx
    simp only [Option.map_some, Option.some.injEq] at hx
    subst hx
    have := h j y hy 0 _ rfl
    simpa [kStr] using this
set_option maxRecDepth 100000 in
theorem join_any (v : Value) (xs : List (List UInt8)) (sep : List UInt8) (w : World) (h : kStr.At w v xs) (hc : ∀ a n c, v = .slice a n c → n ≤ c) (hN : xs.length ≤ 140737488355328) (hl : (Lib.join xs sep).length ≤ 140737488355328) :
    Calls Tryz.prog 56 #[v, .string (str sep)] w fun e w' => e = .returned (.string (str (Lib.join xs sep))) ∧ Below w.heap.size w w' := by
  obtain ⟨a, cap, rfl, rfl | ⟨b, off, rfl, hlt, hx⟩⟩ := h
  · exact (Tryz.strings_Join_none a cap (str sep) w).mono fun e w' ⟨he, hw⟩ => ⟨he, hw ▸ Below.refl _ _⟩
  · have e1 : (xs.map str).map (·.data.toList) = xs := by rw [List.map_map]; exact List.map_id _
    have := Tryz.strings_Join b off cap (xs.map str) (str sep) w (strs_at hx) hlt (by simpa using hN) (by simpa using hc _ _ _ rfl) (by rw [e1]; exact hl)
    rw [e1, List.length_map] at this
    exact this
set_option maxRecDepth 100000 in
theorem joined_any (v : Value) (xs : List (List UInt8)) (w : World) (h : kStr.At w v xs) (hc : ∀ a n c, v = .slice a n c → n ≤ c) (hN : xs.length ≤ 140737488355328) (hl : (Lib.join xs [32]).length ≤ 140737488355328) :
    Calls Tryz.prog 46 #[v] w fun e w' => e = .returned (.string (str (Lib.join xs [32]))) ∧ Below w.heap.size w w' := by
  have I := Lib.hid (join_any v xs [32] w h hc hN hl)
  clear h hc hN hl
  go_enter Tryz.func46, Tryz.ntmps46
  go_wp2_with fail
  refine I.out.mono ?_
  rintro e w1 ⟨rfl, hb⟩
  go_wp2
  go_ret
  exact ⟨rfl, hb⟩
end Go.Proofs.YtdclokpoeaehlaaGreatDoor
