/- Ints, Clone, Op: together in one text. -/
import Derived.Test.YtdclokpoeaehlaaGreatDoorGa
import Derived.Test.YtdclokpoeaehlaaGreatDoorProg
import Derived.Deep.LoopGhost
import Derived.Lib.Hide
import Derived.WalkSpells
import Derived.WalkLawsBesides
import Derived.Deep.Cut
import Derived.DeepKeys4
import Derived.Maps.AppendAt
import Derived.Deep.RegionWith
/- Slices of int64 that are read. -/
namespace Go.Proofs.YtdclokpoeaehlaaGreatDoor
set_option linter.all false
open Go.RowKit

/-- The slice's elements. -/
def IntsAt (w : World) (v : Value) (zs : List Int) : Prop :=
  ∃ a cap, v = .slice a zs.length cap ∧ (zs = [] ∨ ∃ b off, a = some ⟨b, off, none⟩ ∧ b < w.heap.size ∧ ∀ j, j < zs.length → w.cell? ⟨b, off + j, none⟩ = some (.int .i64 (zs.getD j 0)))
theorem IntsAt.below {w w' : World} {v : Value} {zs : List Int} (h : IntsAt w v zs) (hb : Below w.heap.size w w') : IntsAt w' v zs := by
  obtain ⟨a, cap, rfl, h | ⟨b, off, rfl, hlt, hc⟩⟩ := h
  · exact ⟨a, cap, rfl, .inl h⟩
  · exact ⟨_, cap, rfl, .inr ⟨b, off, rfl, Nat.lt_of_lt_of_le hlt hb.size, fun j hj => (hb.cell (p := ⟨b, off + j, none⟩) hlt).trans (hc j hj)⟩⟩
theorem IntsAt.from_ {w w' : World} {v : Value} {zs : List Int} (h : IntsAt w v zs) (hf : From w w') : IntsAt w' v zs := h.below hf.out
end Go.Proofs.YtdclokpoeaehlaaGreatDoor
/- slices.Clone at []int64: a new slice with the same elements; nil of nil. -/
namespace Go.Proofs.YtdclokpoeaehlaaGreatDoor
set_option linter.all false
open Go.RowKit

/-- A result that is a new slice with these numbers. -/
def RetInts (W : World) (zs : List Int) (e : Ending) (w' : World) : Prop :=
  ∃ a cap, e = .returned (.slice a zs.length cap) ∧ w'.ownsRow W.heap.size 2 1 (.slice a zs.length cap) zs.length (zs.map (Value.int .i64)) ∧ Below W.heap.size W w'
theorem info64 : (Tryz.prog.info? 2).map (fun i => (i.zero, i.size, i.bytes)) = some (some (.int .i64 0), 1, 8) := by kernel_rfl

theorem clone_nil (n c : Nat) (w : World) : Calls Tryz.prog 86 #[.slice none n c] w fun e w' => e = .returned (.slice none 0 0) ∧ w = w' := by
  have hs := fun w => Lib.run_eql_slice_nil (P := Tryz.prog) w 56 2 none n c 0 0 Tryz.underlying56
  go_enter Tryz.func86, Tryz.ntmps86
  go_wp2
  go_ret
  exact ⟨rfl, rfl⟩
set_option maxRecDepth 100000 in
theorem clone_addr (x : Addr) (cap : Nat) (zs : List Int) (w : World) (hz : zs.length * 8 ≤ 140737488351232)
    (hc : ∀ j u, (zs.map (Value.int .i64))[j]? = some u → w.cell? (x.add j) = some u ∧ (x.add j).block < w.heap.size) :
    Calls Tryz.prog 86 #[.slice (some x) zs.length cap] w (RetInts w zs) := by
  have hs := fun w => Lib.run_eql_slice_nil (P := Tryz.prog) w 56 2 (some x) zs.length cap 0 0 Tryz.underlying56
  obtain ⟨i0, hi, hz0, hz1, hz2⟩ := info_parts info64
  have HN : Hid (∀ j u, (zs.map (Value.int .i64))[j]? = some u → (w.alloc (.cells #[] 2)).cell? (x.add j) = some u) := fun j u hu => by
    rw [World.cell?_alloc_lt _ _ _ (hc j u hu).2, (hc j u hu).1]
  clear hc
  obtain ⟨len, hlen⟩ : ∃ n, n = zs.length := ⟨_, rfl⟩
  have HL := Lib.hid hlen
  rw [← hlen] at hz hs ⊢
  clear hlen
  have H1 : Hid ((zs.map (Value.int .i64)).length = len * 1) := by simp [HL.out, Hid]
  have H2 : Hid (∀ u ∈ zs.map (Value.int .i64), u.oneCell' = true) := by intro u hu; obtain ⟨x, _, rfl⟩ := List.mem_map.1 hu; rfl
  have H3 : Hid (0 + len ≤ maxLen) := by show _ ≤ _; unfold maxLen; omega
  have H4 : Hid ((0 + len) * 8 ≤ 140737488355328) := by show _ ≤ _; omega
  have H5 : Hid (w.heap.size ≤ (w.alloc (.cells #[] 2)).heap.size) := by show _ ≤ _; simp
  go_enter Tryz.func86, Tryz.ntmps86
  go_wp2_with (at_builtin; (refine wpList_append_own_at _ rfl _ _ 56 rfl w.heap.size 2 i0 (.int .i64 0) 1 8 Tryz.underlying56 hi hz0 hz1 hz2 rfl (by decide) _ 0 [] rfl (World.ownsRow_made w #[] 0 (Nat.le_refl _) (by decide) rfl) x len cap (zs.map (Value.int .i64)) rfl H1.out HN.out H2.out H3.out H4.out H5.out ?_))
  · intro v' w1 hown hgrow _ _
    obtain ⟨a', c', rfl⟩ := ownsRow_shape hown
    go_wp2
    go_ret
    exact ⟨a', c', by rw [← HL.out]; rfl, by simpa [HL.out] using hown, ((Below.refl _ w).alloc (Nat.le_refl _) _).grown hgrow (by simp) (fun k e => by cases e; exact Nat.le_refl _)⟩
/-- A copy of whatever slice of int64: new, with the same elements. -/
theorem clone_any (v : Value) (zs : List Int) (w : World) (hz : zs.length * 8 ≤ 140737488351232) (h : IntsAt w v zs) : Calls Tryz.prog 86 #[v] w (RetInts w zs) := by
  obtain ⟨a, cap, rfl, rfl | ⟨b, off, rfl, hlt, hc⟩⟩ := h
  · cases a with
    | none => exact (clone_nil 0 cap w).mono fun e w' ⟨he, hw⟩ => ⟨_, _, he, World.ownsRow_nil _ _ _ _, hw ▸ Below.refl _ _⟩
    | some x => exact clone_addr x cap [] w (by simp) (fun j u hu => by simp at hu)
  · refine clone_addr _ cap zs w hz fun j u hu => ?_
    have hj : j < zs.length := by
      rcases Nat.lt_or_ge j zs.length with h | h
      · exact h
      · simp [List.getElem?_eq_none h] at hu
    rw [add_mk]
    refine ⟨?_, hlt⟩
    rw [hc j hj]
    simp only [List.getElem?_map, List.getElem?_eq_getElem hj, Option.map_some, Option.some.injEq] at hu
    rw [List.getD_eq_getElem?_getD, List.getElem?_eq_getElem hj, ← hu]; rfl
end Go.Proofs.YtdclokpoeaehlaaGreatDoor
/- The functions of package op that make and copy operations. -/
namespace Go.Proofs.YtdclokpoeaehlaaGreatDoor
set_option linter.all false
open Go.RowKit

theorem ints_of_row {w : World} {base : Nat} {E : TypeId} {v : Value} {zs : List Int} (h : w.ownsRow base E 1 v zs.length (zs.map (Value.int .i64))) : IntsAt w v zs := by
  rcases h.2 with ⟨rfl, h0⟩ | ⟨g, cap, cur, rfl, hb, hg, hn, hc, hs, ht⟩
  · exact ⟨_, _, by rw [h0], .inl (List.eq_nil_of_length_eq_zero h0)⟩
  · refine ⟨_, cap, rfl, .inr ⟨g, 0, rfl, (Array.getElem?_eq_some_iff.1 hg).1, fun j hj => ?_⟩⟩
    have h1 := h.cells (g := g) rfl j (.int .i64 (zs.getD j 0)) (by rw [List.getElem?_map, List.getElem?_eq_getElem hj, List.getD_eq_getElem?_getD, List.getElem?_eq_getElem hj]; rfl)
    rw [add_mk] at h1
    exact h1

/-- An operation's value. -/
abbrev opV (k i c n : Int) (f : Bool) (am : Value) : Value := .agg #[.int .i64 k, .int .i64 i, .int .i64 c, .int .i64 n, .bool f, am]
/-- A result that is an operation with amounts of its own. -/
def RetOp (W : World) (k i c n : Int) (f : Bool) (zs : List Int) (e : Ending) (w' : World) : Prop :=
  ∃ a cap, e = .returned (opV k i c n f (.slice a zs.length cap)) ∧ w'.ownsRow W.heap.size 2 1 (.slice a zs.length cap) zs.length (zs.map (Value.int .i64)) ∧ Below W.heap.size W w'

set_option maxRecDepth 100000 in
theorem opClone_any (k i c n : Int) (f : Bool) (am : Value) (zs : List Int) (w : World) (hz : zs.length * 8 ≤ 140737488351232) (h : IntsAt w am zs) :
    Calls Tryz.prog 83 #[opV k i c n f am] w (RetOp w k i c n f zs) := by
  have h' := h.below ((((Below.refl _ w).alloc (Nat.le_refl _) (.cells #[.int .i64 k, .int .i64 i, .int .i64 c, .int .i64 n, .bool f, am] 58)).alloc (by simp) (.cells #[.int .i64 0, .int .i64 0, .int .i64 0, .int .i64 0, .bool false, .slice none 0 0] 58)))
  clear h
  go_enter Tryz.func83, Tryz.ntmps83
  go_wp2_with fail
  refine (clone_any _ zs _ hz h').mono ?_
  rintro e w' ⟨a', c', rfl, hown, hb⟩
  obtain ⟨hc, hf⟩ := bcell hb
  have hsz := hb.size
  have h5 : w'.cell? ⟨w.heap.size, 5, none⟩ = some am := by rw [hc _ _ (by simp; omega)]; go_simp
  have r0 : w'.cell? ⟨w.heap.size + 1, 0, none⟩ = some (.int .i64 0) := by rw [hc _ _ (by simp)]; go_simp
  have r1 : w'.cell? ⟨w.heap.size + 1, 1, none⟩ = some (.int .i64 0) := by rw [hc _ _ (by simp)]; go_simp
  have r2 : w'.cell? ⟨w.heap.size + 1, 2, none⟩ = some (.int .i64 0) := by rw [hc _ _ (by simp)]; go_simp
  have r3 : w'.cell? ⟨w.heap.size + 1, 3, none⟩ = some (.int .i64 0) := by rw [hc _ _ (by simp)]; go_simp
  have r4 : w'.cell? ⟨w.heap.size + 1, 4, none⟩ = some (.bool false) := by rw [hc _ _ (by simp)]; go_simp
  have r5 : w'.cell? ⟨w.heap.size + 1, 5, none⟩ = some (.slice none 0 0) := by rw [hc _ _ (by simp)]; go_simp
  go_wp2
  refine bodyPost_ret (v := opV k i c n f (.slice a' zs.length c')) ?_ rfl ⟨a', c', rfl, ?_, ?_⟩
  · simp [results, Tryz.results83, go_sem, r0, r1, r2, r3, r4, r5]
  · refine ownsRow_low ?_ (show w.heap.size ≤ w.heap.size + 1 + 1 by omega)
    repeat (first | (with_reducible exact hown) | refine ownsRow_setCell_below ?_ (by show _ < _; simp only []; omega) _)
    simpa using hown
  · have hb0 : Below w.heap.size w w' := (((Below.refl _ w).alloc (Nat.le_refl _) _).alloc (by simp) _).trans (hb.mono (by simp; omega))
    repeat (first | (with_reducible exact hb0) | refine Below.setCell ?_ (by show _ ≤ _; simp only []; omega) _)
end Go.Proofs.YtdclokpoeaehlaaGreatDoor
