/- slices.Clone at []int64: a new slice with the same elements; nil of nil. -/
import Derived.Test.YtllipidegjpidaaGreatDoorInts
import Derived.Maps.AppendAt
namespace Go.Proofs.YtllipidegjpidaaGreatDoor
set_option linter.all false
open Go.RowKit

/-- A result that is a new slice with these numbers. -/
def RetInts (W : World) (zs : List Int) (e : Ending) (w' : World) : Prop :=
  ∃ a cap, e = .returned (.slice a zs.length cap) ∧ w'.ownsRow W.heap.size 2 1 (.slice a zs.length cap) zs.length (zs.map (Value.int .i64)) ∧ Below W.heap.size W w'
theorem info64 : (Tryz.prog.info? 2).map (fun i => (i.zero, i.size, i.bytes)) = some (some (.int .i64 0), 1, 8) := by kernel_rfl

theorem clone_nil (n c : Nat) (w : World) : Calls Tryz.prog 49 #[.slice none n c] w fun e w' => e = .returned (.slice none 0 0) ∧ w = w' := by
  have hs := fun w => Lib.run_eql_slice_nil (P := Tryz.prog) w 35 2 none n c 0 0 Tryz.underlying35
  go_enter Tryz.func49, Tryz.ntmps49
  go_wp2
  go_ret
  exact ⟨rfl, rfl⟩
set_option maxRecDepth 100000 in
theorem clone_addr (x : Addr) (cap : Nat) (zs : List Int) (w : World) (hz : zs.length * 8 ≤ 140737488351232)
    (hc : ∀ j u, (zs.map (Value.int .i64))[j]? = some u → w.cell? (x.add j) = some u ∧ (x.add j).block < w.heap.size) :
    Calls Tryz.prog 49 #[.slice (some x) zs.length cap] w (RetInts w zs) := by
  have hs := fun w => Lib.run_eql_slice_nil (P := Tryz.prog) w 35 2 (some x) zs.length cap 0 0 Tryz.underlying35
  obtain ⟨i0, hi, hz0, hz1, hz2⟩ := info_parts info64
  have HN : Hid (∀ j u, (zs.map (Value.int .i64))[j]? = some u → (w.alloc (.cells #[] 2)).cell? (x.add j) = some u) := fun j u hu => by
    rw [World.cell?_alloc_lt _ _ _ (hc j u hu).2, (hc j u hu).1]
  clear hc
  obtain ⟨len, hlen⟩ : ∃ n, n = zs.length := ⟨_, rfl⟩
  have HL := Lib.hid hlen
  rw [← hlen] at hz hs ⊢
  clear hlen
  have H1 : Hid ((zs.map (Value.int .i64)).length = len * 1) := by simp [HL.out, Hid]
  have H2 : Hid (∀ u ∈ zs.map (Value.int .i64), u.oneCell' = true) := by intro u hu; obtain ⟨x, _, rfl⟩ := List.mem_map.1 hu; rfl
  have H3 : Hid (0 + len ≤ maxLen) := by show _ ≤ _; unfold maxLen; omega
  have H4 : Hid ((0 + len) * 8 ≤ 140737488355328) := by show _ ≤ _; omega
  have H5 : Hid (w.heap.size ≤ (w.alloc (.cells #[] 2)).heap.size) := by show _ ≤ _; simp
  go_enter Tryz.func49, Tryz.ntmps49
  go_wp2_with (at_builtin; (refine wpList_append_own_at _ rfl _ _ 35 rfl w.heap.size 2 i0 (.int .i64 0) 1 8 Tryz.underlying35 hi hz0 hz1 hz2 rfl (by decide) _ 0 [] rfl (World.ownsRow_made w #[] 0 (Nat.le_refl _) (by decide) rfl) x len cap (zs.map (Value.int .i64)) rfl H1.out HN.out H2.out H3.out H4.out H5.out ?_))
  · intro v' w1 hown hgrow _ _
    obtain ⟨a', c', rfl⟩ := ownsRow_shape hown
    go_wp2
    go_ret
    exact ⟨a', c', by rw [← HL.out]; rfl, by simpa [HL.out] using hown, ((Below.refl _ w).alloc (Nat.le_refl _) _).grown hgrow (by simp) (fun k e => by cases e; exact Nat.le_refl _)⟩
/-- A copy of whatever slice of int64: new, with the same elements. -/
theorem clone_any (v : Value) (zs : List Int) (w : World) (hz : zs.length * 8 ≤ 140737488351232) (h : IntsAt w v zs) : Calls Tryz.prog 49 #[v] w (RetInts w zs) := by
  obtain ⟨a, cap, rfl, rfl | ⟨b, off, rfl, hlt, hc⟩⟩ := h
  · cases a with
    | none => exact (clone_nil 0 cap w).mono fun e w' ⟨he, hw⟩ => ⟨_, _, he, World.ownsRow_nil _ _ _ _, hw ▸ Below.refl _ _⟩
    | some x => exact clone_addr x cap [] w (by simp) (fun j u hu => by simp at hu)
  · refine clone_addr _ cap zs w hz fun j u hu => ?_
    have hj : j < zs.length := by
      rcases Nat.lt_or_ge j zs.length with h | h
      · exact h
      · simp [List.getElem?_eq_none h] at hu
    rw [add_mk]
    refine ⟨?_, hlt⟩
    rw [hc j hj]
    simp only [List.getElem?_map, List.getElem?_eq_getElem hj, Option.map_some, Option.some.injEq] at hu
    rw [List.getD_eq_getElem?_getD, List.getElem?_eq_getElem hj, ← hu]; rfl
end Go.Proofs.YtllipidegjpidaaGreatDoor
