/- IDs of a table of one entry. -/
import Derived.Test.YtllipidegjpidaaGreatDoorJQ
import Derived.Test.YtllipidegjpidaaGreatDoorJR
namespace Go.Proofs.YtllipidegjpidaaGreatDoor
set_option linter.all false
open Go.RowKit
attribute [local go_sem] Oper.semAt_some

/-- A box whose slice holds the one id, or is nil. -/
def BoxI (c : Nat) (w : World) (pre : List Unit) (W : World) : Prop :=
  (pre = [] → W.cell? ⟨c, 0, none⟩ = some (.slice none 0 0)) ∧ (pre ≠ [] → ∃ b k, W.cell? ⟨c, 0, none⟩ = some (.slice (some ⟨b, 0, none⟩) 1 k) ∧ W.cell? ⟨b, 0, none⟩ = some (.int .i64 7) ∧ c < b) ∧ W.frozen? ⟨c, 0, none⟩ = false ∧ c < W.heap.size
theorem BoxI.own (c : Nat) (w : World) : Own (BoxI c w) := fun s A B row hs hg hr => by
  obtain ⟨h0, h1, hf, hl⟩ := hs
  refine ⟨fun e => cell_kept (h0 e) hg hr, fun e => ?_, ?_, Nat.lt_of_lt_of_le hl hg.size⟩
  · obtain ⟨b, k, c1, c2, hb⟩ := h1 e
    exact ⟨b, k, cell_kept c1 hg hr, cell_kept c2 hg hr, hb⟩
  · by_cases e : s = []
    · exact (frozen_kept (h0 e) hg hr).trans hf
    · obtain ⟨b, k, c1, _⟩ := h1 e
      exact (frozen_kept c1 hg hr).trans hf
set_option maxHeartbeats 4000000 in
set_option maxRecDepth 100000 in
theorem tids_any (tb m : Nat) (v : Value) (w : World) (ht : w.cell? ⟨tb, 1, none⟩ = some (.map (some m))) (hm : MapI w m [(7, v)]) :
    Calls Tryz.prog 164 #[.pointer (some ⟨tb, 0, none⟩)] w fun e w' => ∃ b k, e = .returned (.slice (some ⟨b, 0, none⟩) 1 k) ∧ w'.cell? ⟨b, 0, none⟩ = some (.int .i64 7) ∧ w.heap.size ≤ b ∧ Below w.heap.size w w' := by
  have htl := cell_lt ht
  have HM := Lib.hid hm; clear hm
  refine (callsIn_wide (n := 6)).1 ?_
  refine callsIn_of_wp_marks Tryz.func164 rfl trivial ?_ rfl
  simp only [Tryz.ntmps164, List.size_toArray, List.length_cons, List.length_nil, Nat.reduceAdd, Nat.reduceSub, Array.replicate_succ, Array.replicate_zero, List.push_toArray, List.append_toArray, List.nil_append, List.cons_append]
  gi_wp2_with fail
  refine ⟨trivial, ?_⟩
  refine (callsIn_wide.2 (keysMk_any m _)).mono ?_
  rintro e w' ⟨rfl, rfl⟩
  gi_wp2
  obtain ⟨W0, hW0⟩ : ∃ W0, W0 = (w.alloc (.cells #[.slice none 0 0] 31)).alloc (.cells #[.map (some m)] 140) := ⟨_, rfl⟩
  have hs0 : W0.heap.size = w.heap.size + 2 := by rw [hW0]; simp
  have hb0 : Below w.heap.size w W0 := by rw [hW0]; exact ((Below.refl _ w).alloc (Nat.le_refl _) _).alloc (by simp) _
  have c0 : W0.cell? ⟨w.heap.size, 0, none⟩ = some (.slice none 0 0) := by rw [hW0]; go_simp
  have f0 : W0.frozen? ⟨w.heap.size, 0, none⟩ = false := by rw [hW0]; go_simp
  have c1 : W0.cell? ⟨w.heap.size + 1, 0, none⟩ = some (.map (some m)) := by rw [hW0]; go_simp
  rw [← hW0]
  clear hW0
  refine wpIn_rangeFunc_ownF rfl (by omega) (gf := 187) (lb := #[.pointer (some ⟨w.heap.size + 1, 0, none⟩)]) rfl trivial (enters_of Tryz.func187 (by kernel_rfl) rfl)
    (keys_stops 5 (by omega) (w.heap.size + 1) m v W0 c1 (HM.out.below hb0)) walksK_t walksK_b (Below.refl _ _) (fun _ => rfl)
    (fun pre W => BoxI w.heap.size w pre W ∧ Below w.heap.size w W)
    (fun _ _ _ => False)
    (OwnFrom.and ((BoxI.own _ _).from _) (ownFrom_below (Nat.le_refl _) (by omega)))
    (fun _ _ _ _ _ hs _ _ => hs)
    ⟨⟨fun _ => c0, fun h => absurd rfl h, f0, by omega⟩, hb0⟩
    (fun x => { tmps := #[.pointer (some ⟨tb, 0, none⟩), undef, .slice none 0 0, .pointer (some ⟨w.heap.size, 0, none⟩), .int .i64 7, .pointer (some ⟨tb, 0, none⟩), .bool false, .pointer (some ⟨tb, 0, none⟩), .pointer (some ⟨tb, 0, none⟩), .pointer (some ⟨tb, 1, none⟩), .map (some m), .func (.func 187) #[] #[.pointer (some ⟨w.heap.size + 1, 0, none⟩)], .int .i64 7, undef, undef, undef, undef, undef, undef, undef], defers := [] }) ?assign ?body ?done ?stop
  case assign =>
    intro l x W K hK
    gi_wp2
    exact hK
  case body =>
    rintro l pre x W ⟨⟨h0, h1, hf, hl⟩, hB⟩ hN
    have hp : pre = [] := by cases pre <;> simp_all
    subst hp
    have h0 := h0 rfl
    clear h1
    have HB := Lib.hid hB; clear hB
    gi_wp2
    generalize (Question.appendCap 1 0 3).cut (W.tape W.drawn (Question.appendCap 1 0 3)) = q
    have hco : W.cell? ⟨w.heap.size, 0, none⟩ = some (.slice none 0 0) := by assumption
    have hk : KeepsOthers W (((W.setCell ⟨w.heap.size, 0, none⟩ (.slice (some ⟨W.heap.size + 1, 0, none⟩) 1 q)).alloc (.cells #[.int .i64 7] 3)).alloc (.cells (#[.int .i64 7] ++ Builtin.zeroCells #[.int .i64 0] (q - 1)) 3)).drew :=
      (((KeepsOthers.setCell _ _ _).trans (KeepsOthers.alloc _ _)).trans (KeepsOthers.alloc _ _)).trans ⟨Nat.le_refl _, fun _ _ h _ => h⟩
    refine ⟨hk, hk.walks, ⟨fun h => by simp at h, fun _ => ⟨W.heap.size + 1, q, ?_, ?_, by omega⟩, ?_, ?_⟩, ?_⟩
    · go_simp
    · go_simp
      rw [Array.getElem?_append_left (by decide)]; rfl
    · go_simp
    · simp; omega
    · exact ((((HB.out.setCell (p := ⟨w.heap.size, 0, none⟩) (Nat.le_refl _) _).alloc (by have := HB.out.size; simpa using this) _).alloc (by simp; omega) _).drew)
  case done =>
    rintro D xs W hD rfl ⟨⟨-, h1, hf, hl⟩, hB⟩ hK
    obtain ⟨b, k, c0, c1, hb⟩ := h1 (by simp)
    have HB := Lib.hid hB; clear hB h1
    have HS := Lib.hid (sort1_any b 0 k)
    gi_wp2_with (refine ⟨trivial, ?_⟩; (gi_at_call 179; refine (callsIn_wide.2 (HS.out _)).mono ?_; rintro e w1 ⟨⟨v, rfl⟩, rfl⟩))
    refine ⟨by simp, .inl ⟨_, _, rfl, run_takeDeferred hK, ?_⟩⟩
    refine ⟨_, results_tmp rfl _ _ _, b, k, rfl, cell_kept c1 (grownBy_putObj' _ D (.deferred none)) (fun r e => by cases e; exact ⟨_, hK, rfl⟩), by omega, ?_⟩
    exact HB.out.trans (belowK_b (w := w) (Nat.le_refl _) W D _ _ (by omega) hK rfl rfl)
  case stop =>
    rintro D c pre W _ _ h _
    exact h.elim
end Go.Proofs.YtllipidegjpidaaGreatDoor
