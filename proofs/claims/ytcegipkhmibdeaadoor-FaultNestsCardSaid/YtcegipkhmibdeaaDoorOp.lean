/- The functions of package op that make and copy operations. -/
import Derived.Test.YtcegipkhmibdeaaDoorClone
import Derived.Deep.RegionWith
namespace Go.Proofs.YtcegipkhmibdeaaDoor
set_option linter.all false
open Go.RowKit

theorem ints_of_row {w : World} {base : Nat} {E : TypeId} {v : Value} {zs : List Int} (h : w.ownsRow base E 1 v zs.length (zs.map (Value.int .i64))) : IntsAt w v zs := by
  rcases h.2 with ⟨rfl, h0⟩ | ⟨g, cap, cur, rfl, hb, hg, hn, hc, hs, ht⟩
  · exact ⟨_, _, by rw [h0], .inl (List.eq_nil_of_length_eq_zero h0)⟩
  · refine ⟨_, cap, rfl, .inr ⟨g, 0, rfl, (Array.getElem?_eq_some_iff.1 hg).1, fun j hj => ?_⟩⟩
    have h1 := h.cells (g := g) rfl j (.int .i64 (zs.getD j 0)) (by rw [List.getElem?_map, List.getElem?_eq_getElem hj, List.getD_eq_getElem?_getD, List.getElem?_eq_getElem hj]; rfl)
    rw [add_mk] at h1
    exact h1

theorem ownsRow_low {w : World} {base base' E size n : Nat} {v : Value} {xs : List Value} (h : w.ownsRow base E size v n xs) (hb : base' ≤ base) : w.ownsRow base' E size v n xs := by
  refine ⟨h.1, ?_⟩
  rcases h.2 with h2 | ⟨g, cap, cur, hv, hg, r⟩
  · exact .inl h2
  · exact .inr ⟨g, cap, cur, hv, Nat.le_trans hb hg, r⟩
/-- An operation's value. -/
abbrev opV (k i c n : Int) (f : Bool) (am : Value) : Value := .agg #[.int .i64 k, .int .i64 i, .int .i64 c, .int .i64 n, .bool f, am]
/-- A result that is an operation with amounts of its own. -/
def RetOp (W : World) (k i c n : Int) (f : Bool) (zs : List Int) (e : Ending) (w' : World) : Prop :=
  ∃ a cap, e = .returned (opV k i c n f (.slice a zs.length cap)) ∧ w'.ownsRow W.heap.size 2 1 (.slice a zs.length cap) zs.length (zs.map (Value.int .i64)) ∧ Below W.heap.size W w'

set_option maxRecDepth 100000 in
theorem opClone_any (k i c n : Int) (f : Bool) (am : Value) (zs : List Int) (w : World) (hz : zs.length * 8 ≤ 140737488351232) (h : IntsAt w am zs) :
    Calls Tryd.prog 42 #[opV k i c n f am] w (RetOp w k i c n f zs) := by
  have h' := h.below ((((Below.refl _ w).alloc (Nat.le_refl _) (.cells #[.int .i64 k, .int .i64 i, .int .i64 c, .int .i64 n, .bool f, am] 41)).alloc (by simp) (.cells #[.int .i64 0, .int .i64 0, .int .i64 0, .int .i64 0, .bool false, .slice none 0 0] 41)))
  clear h
  go_enter Tryd.func42, Tryd.ntmps42
  go_wp2_with fail
  refine (clone_any _ zs _ hz h').mono ?_
  rintro e w' ⟨a', c', rfl, hown, hb⟩
  obtain ⟨hc, hf⟩ := bcell hb
  have hsz := hb.size
  have h5 : w'.cell? ⟨w.heap.size, 5, none⟩ = some am := by rw [hc _ _ (by simp; omega)]; go_simp
  have r0 : w'.cell? ⟨w.heap.size + 1, 0, none⟩ = some (.int .i64 0) := by rw [hc _ _ (by simp)]; go_simp
  have r1 : w'.cell? ⟨w.heap.size + 1, 1, none⟩ = some (.int .i64 0) := by rw [hc _ _ (by simp)]; go_simp
  have r2 : w'.cell? ⟨w.heap.size + 1, 2, none⟩ = some (.int .i64 0) := by rw [hc _ _ (by simp)]; go_simp
  have r3 : w'.cell? ⟨w.heap.size + 1, 3, none⟩ = some (.int .i64 0) := by rw [hc _ _ (by simp)]; go_simp
  have r4 : w'.cell? ⟨w.heap.size + 1, 4, none⟩ = some (.bool false) := by rw [hc _ _ (by simp)]; go_simp
  have r5 : w'.cell? ⟨w.heap.size + 1, 5, none⟩ = some (.slice none 0 0) := by rw [hc _ _ (by simp)]; go_simp
  go_wp2
  refine bodyPost_ret (v := opV k i c n f (.slice a' zs.length c')) ?_ rfl ⟨a', c', rfl, ?_, ?_⟩
  · simp [results, Tryd.results42, go_sem, r0, r1, r2, r3, r4, r5]
  · refine ownsRow_low ?_ (show w.heap.size ≤ w.heap.size + 1 + 1 by omega)
    repeat (first | (with_reducible exact hown) | refine ownsRow_setCell_below ?_ (by show _ < _; simp only []; omega) _)
    simpa using hown
  · have hb0 : Below w.heap.size w w' := (((Below.refl _ w).alloc (Nat.le_refl _) _).alloc (by simp) _).trans (hb.mono (by simp; omega))
    repeat (first | (with_reducible exact hb0) | refine Below.setCell ?_ (by show _ ≤ _; simp only []; omega) _)
end Go.Proofs.YtcegipkhmibdeaaDoor
