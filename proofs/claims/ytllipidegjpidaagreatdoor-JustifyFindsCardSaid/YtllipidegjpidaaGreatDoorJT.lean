/- IDs of the nodes, and the nodes. -/
import Derived.Test.YtllipidegjpidaaGreatDoorJS
namespace Go.Proofs.YtllipidegjpidaaGreatDoor
set_option linter.all false
open Go.RowKit

set_option maxHeartbeats 4000000 in
set_option maxRecDepth 100000 in
theorem nids_any (b : Nat) (w : World) (h : ClF w b) : Calls Tryz.prog 141 #[.pointer (some ⟨b + 5, 0, none⟩)] w fun e w' => ∃ g k, e = .returned (.slice (some ⟨g, 0, none⟩) 1 k) ∧ w'.cell? ⟨g, 0, none⟩ = some (.int .i64 7) ∧ w.heap.size ≤ g ∧ Below w.heap.size w w' := by
  have HN : Hid (∀ X, From w X → Calls Tryz.prog 122 #[.pointer (some ⟨b + 5, 0, none⟩)] X fun e w' => e = .returned (.pointer (some ⟨b + 4, 0, none⟩)) ∧ X = w') := fun X f => by
    obtain ⟨br, orr, cr, bi, ci, b1, o1, c1, b2, o2, c2, hcl, -⟩ := h
    exact nnodes_any b X (hcl.below f.out)
  have HT : Hid (∀ X, From w X → Calls Tryz.prog 164 #[.pointer (some ⟨b + 4, 0, none⟩)] X fun e w' => ∃ g k, e = .returned (.slice (some ⟨g, 0, none⟩) 1 k) ∧ w'.cell? ⟨g, 0, none⟩ = some (.int .i64 7) ∧ X.heap.size ≤ g ∧ Below X.heap.size X w') := fun X f => by
    obtain ⟨br, orr, cr, bi, ci, b1, o1, c1, b2, o2, c2, hcl, -⟩ := h
    exact tids_any (b + 4) (b + 3) _ X (hcl.below f.out).u1 (hcl.below f.out).mn
  clear h
  go_enter Tryz.func141, Tryz.ntmps141
  go_wp2_with fail
  refine (HN.out _ (From.refl w)).mono ?_
  rintro e W0 ⟨rfl, rfl⟩
  go_wp2_with fail
  refine (HT.out _ (From.refl w)).mono ?_
  rintro e W1 ⟨g, k, rfl, hc, hg, hb⟩
  have HQ := Lib.hid hc
  have HB := Lib.hid hb
  clear hc hb
  go_wp2
  go_ret
  exact ⟨g, k, rfl, HQ.out, hg, HB.out⟩
/-- A node in a row. -/
def NodeAt (w : World) (g : Nat) : Prop := ∃ b o c, w.cell? ⟨g, 0, none⟩ = some (.int .i64 7) ∧ w.cell? ⟨g, 1, none⟩ = some (.slice (some ⟨b, o, none⟩) 1 c) ∧ w.cell? ⟨b, o, none⟩ = some (.int .i64 5)
theorem NodeAt.below {w w' : World} {g : Nat} (h : NodeAt w g) (f : Below w.heap.size w w') : NodeAt w' g := by
  obtain ⟨b, o, c, h0, h1, h2⟩ := h
  exact ⟨b, o, c, keepl f h0, keepl f h1, keepl f h2⟩
set_option maxHeartbeats 4000000 in
set_option maxRecDepth 100000 in
theorem cnodes_any (b : Nat) (w : World) (h : ClF w b) : Calls Tryz.prog 108 #[.pointer (some ⟨b + 6, 0, none⟩)] w fun e w' => ∃ g k, e = .returned (.slice (some ⟨g, 0, none⟩) 1 k) ∧ NodeAt w' g ∧ w.heap.size ≤ g ∧ Below w.heap.size w w' := by
  have HS : Hid (∀ X, From w X → Calls Tryz.prog 31 #[.pointer (some ⟨b + 6, 0, none⟩)] X fun e w' => e = .returned (.agg #[.pointer (some ⟨b + 2, 0, none⟩), .pointer (some ⟨b + 5, 0, none⟩)]) ∧ From X w') := fun X f => by
    obtain ⟨br, orr, cr, bi, ci, b1, o1, c1, b2, o2, c2, hcl, -⟩ := h
    exact state_any b X (hcl.below f.out)
  have HI : Hid (∀ X, From w X → Calls Tryz.prog 141 #[.pointer (some ⟨b + 5, 0, none⟩)] X fun e w' => ∃ g k, e = .returned (.slice (some ⟨g, 0, none⟩) 1 k) ∧ w'.cell? ⟨g, 0, none⟩ = some (.int .i64 7) ∧ X.heap.size ≤ g ∧ Below X.heap.size X w') := fun X f => nids_any b X (h.below f.out)
  have HN : Hid (∀ X, From w X → Calls Tryz.prog 142 #[.pointer (some ⟨b + 6, 0, none⟩), .int .i64 7] X fun e w' => ∃ b' o' c', e = .returned (.tuple #[nodeVal b' o' c', .bool true]) ∧ w'.cell? ⟨b', o', none⟩ = some (.int .i64 5) ∧ X.heap.size ≤ b' ∧ Below X.heap.size X w') := fun X f => cnode_any b X (h.below f.out)
  have hf1 := stateField1 (some ⟨b + 2, 0, none⟩) (some ⟨b + 5, 0, none⟩)
  clear h
  go_enter Tryz.func108, Tryz.ntmps108
  go_wp2_with fail
  refine (HS.out _ (From.refl w)).mono ?_
  rintro e W1 ⟨rfl, f1⟩
  have F1 := Lib.hid f1
  clear f1
  go_wp2_with fail
  refine (HI.out _ F1.out).mono ?_
  rintro e W2 ⟨g, k, rfl, hc, hg, hb⟩
  have f2 : From W1 W2 := ⟨hb⟩
  have F2 := Lib.hid (F1.out.trans f2)
  have HC := Lib.hid hc
  clear hb f2 
  go_wp2
  refine wp_loop_rounds 2 ?_
  rw [rounds_succ]
  go_wp2_with fail
  refine (HN.out _ F2.out).mono ?_
  rintro e W3 ⟨b', o', c', rfl, hc5, hl5, hb⟩
  have f3 : From W2 W3 := ⟨hb⟩
  have F3 := Lib.hid (F2.out.trans f3)
  have HC5 := Lib.hid hc5
  clear hb f3 hc5
  go_wp2
  generalize (Question.appendCap 1 0 37).cut (W3.tape W3.drawn (Question.appendCap 1 0 37)) = q
  obtain ⟨X, hX⟩ : ∃ X, X = ((((W3.alloc (Obj.cells #[.int .i64 7, .slice (some ⟨b', o', none⟩) 1 c'] 37)).alloc (.cells #[.int .i64 7, .slice (some ⟨b', o', none⟩) 1 c'] 37)).alloc (.cells (#[.int .i64 7, .slice (some ⟨b', o', none⟩) 1 c'] ++ Builtin.zeroCells #[.int .i64 0, .slice none 0 0] (q - 1)) 37)).drew) := ⟨_, rfl⟩
  have fX : From W3 X := by rw [hX]; exact ((((From.refl W3).alloc _).alloc _).alloc _).drew
  have n0 : X.cell? ⟨W3.heap.size + 2, 0, none⟩ = some (.int .i64 7) := by
    rw [hX]; go_simp
    rw [Array.getElem?_append_left (by simp)]; rfl
  have n1 : X.cell? ⟨W3.heap.size + 2, 1, none⟩ = some (.slice (some ⟨b', o', none⟩) 1 c') := by
    rw [hX]; go_simp
    rw [Array.getElem?_append_left (by simp)]; rfl
  have hs := F3.out.out.size
  have HF := Lib.hid (F3.out.trans fX)
  have HN5 := Lib.hid (fX.cell HC5.out)
  rw [← hX]
  clear hX fX
  rw [rounds_succ]
  go_wp2
  go_ret
  exact ⟨_, _, rfl, ⟨b', o', c', n0, n1, HN5.out⟩, by omega, HF.out.out⟩
end Go.Proofs.YtllipidegjpidaaGreatDoor
