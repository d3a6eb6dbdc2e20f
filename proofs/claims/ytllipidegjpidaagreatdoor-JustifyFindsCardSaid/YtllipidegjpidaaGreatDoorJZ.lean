/- filter.Nodes, filter.First of awake's cluster. -/
import Derived.Test.YtllipidegjpidaaGreatDoorJY
namespace Go.Proofs.YtllipidegjpidaaGreatDoor
set_option linter.all false
open Go.RowKit
attribute [local go_sem] Oper.semAt_some

abbrev fitFn (sc sh : Nat) : Value := .func (.func 107) #[] #[.pointer (some ⟨sc, 0, none⟩), .pointer (some ⟨sh, 0, none⟩)]
set_option maxHeartbeats 4000000 in
set_option maxRecDepth 100000 in
theorem appendSeq_any (sc sh b bp op cp : Nat) (w : World) (h : ClF w b) (hf : FitsFn w sc sh b bp op cp) :
    Calls Tryz.prog 150 #[.slice none 0 0, fitFn sc sh] w fun e w' => ∃ g k, e = .returned (.slice (some ⟨g, 0, none⟩) 1 k) ∧ w'.cell? ⟨g, 0, none⟩ = some (.int .i64 7) ∧ w.heap.size ≤ g ∧ Below w.heap.size w w' := by
  have HCL := Lib.hid h; clear h
  have HFF := Lib.hid hf; clear hf
  refine (callsIn_wide (n := 6)).1 ?_
  refine callsIn_of_wp_marks Tryz.func150 rfl trivial ?_ rfl
  simp only [Tryz.ntmps150, List.size_toArray, List.length_cons, List.length_nil, Nat.reduceAdd, Nat.reduceSub, Array.replicate_succ, Array.replicate_zero, List.push_toArray, List.append_toArray, List.nil_append, List.cons_append]
  gi_wp2
  obtain ⟨W0, hW0⟩ : ∃ W0, W0 = w.alloc (.cells #[.slice none 0 0] 31) := ⟨_, rfl⟩
  have hs0 : W0.heap.size = w.heap.size + 1 := by rw [hW0]; simp
  have hb0 : Below w.heap.size w W0 := by rw [hW0]; exact (Below.refl _ w).alloc (Nat.le_refl _) _
  have c0 : W0.cell? ⟨w.heap.size, 0, none⟩ = some (.slice none 0 0) := by rw [hW0]; go_simp
  have f0 : W0.frozen? ⟨w.heap.size, 0, none⟩ = false := by rw [hW0]; go_simp
  rw [← hW0]
  clear hW0
  have HST : Hid (SeqStopsK Fence.wide 5 Tryz.prog 107 #[.pointer (some ⟨sc, 0, none⟩), .pointer (some ⟨sh, 0, none⟩)] (fun _ : Unit => #[.int .i64 7]) KeepsWalks (fun xs => xs = [()]) (fun xs => xs = [()]) 1 W0) := by
    obtain ⟨xc, xp, k0, k1, k2, k3⟩ := HFF.out.below hb0
    exact nodes1_stops 5 (by omega) b bp op cp sc sh xc xp W0 (HCL.out.below hb0) k0 k1 k2 k3
  refine wpIn_rangeFunc_ownF rfl (by omega) (gf := 107) (lb := #[.pointer (some ⟨sc, 0, none⟩), .pointer (some ⟨sh, 0, none⟩)]) rfl trivial (enters_of Tryz.func107 (by kernel_rfl) rfl)
    HST.out walksK_t walksK_b (Below.refl _ _) (fun _ => rfl)
    (fun pre W => BoxI w.heap.size w pre W ∧ Below w.heap.size w W)
    (fun _ _ _ => False)
    (OwnFrom.and ((BoxI.own _ _).from _) (ownFrom_below (Nat.le_refl _) (by omega)))
    (fun _ _ _ _ _ hs _ _ => hs)
    ⟨⟨fun _ => c0, fun h => absurd rfl h, f0, by omega⟩, hb0⟩
    (fun x => { tmps := #[.slice none 0 0, fitFn sc sh, .pointer (some ⟨w.heap.size, 0, none⟩), undef, .slice none 0 0, .int .i64 7, fitFn sc sh, .int .i64 7, undef, undef, undef, undef, undef], defers := [] }) ?assign ?body ?done ?stop
  case assign =>
    intro l x W K hK
    gi_wp2
    exact hK
  case body =>
    rintro l pre x W ⟨⟨h0, h1, hf, hl⟩, hB⟩ hN
    have hp : pre = [] := by cases pre <;> simp_all
    subst hp
    have h0 := h0 rfl
    clear h1
    have HB := Lib.hid hB; clear hB
    gi_wp2
    generalize (Question.appendCap 1 0 3).cut (W.tape W.drawn (Question.appendCap 1 0 3)) = q
    have hco : W.cell? ⟨w.heap.size, 0, none⟩ = some (.slice none 0 0) := by assumption
    have hk : KeepsOthers W (((W.setCell ⟨w.heap.size, 0, none⟩ (.slice (some ⟨W.heap.size + 1, 0, none⟩) 1 q)).alloc (.cells #[.int .i64 7] 3)).alloc (.cells (#[.int .i64 7] ++ Builtin.zeroCells #[.int .i64 0] (q - 1)) 3)).drew :=
      (((KeepsOthers.setCell _ _ _).trans (KeepsOthers.alloc _ _)).trans (KeepsOthers.alloc _ _)).trans ⟨Nat.le_refl _, fun _ _ h _ => h⟩
    refine ⟨hk, hk.walks, ⟨fun h => by simp at h, fun _ => ⟨W.heap.size + 1, q, ?_, ?_, by omega⟩, ?_, ?_⟩, ?_⟩
    · go_simp
    · go_simp
      rw [Array.getElem?_append_left (by decide)]; rfl
    · go_simp
    · simp; omega
    · exact ((((HB.out.setCell (p := ⟨w.heap.size, 0, none⟩) (Nat.le_refl _) _).alloc (by have := HB.out.size; simpa using this) _).alloc (by simp; omega) _).drew)
  case done =>
    rintro D xs W hD rfl ⟨⟨-, h1, hf, hl⟩, hB⟩ hK
    obtain ⟨g, k, c0, c1, hb⟩ := h1 (by simp)
    have HB := Lib.hid hB; clear hB h1
    gi_wp2
    refine ⟨by simp, .inl ⟨_, _, rfl, run_takeDeferred hK, ?_⟩⟩
    refine ⟨_, results_tmp rfl _ _ _, g, k, rfl, cell_kept c1 (grownBy_putObj' _ D (.deferred none)) (fun r e => by cases e; exact ⟨_, hK, rfl⟩), by omega, ?_⟩
    exact HB.out.trans (belowK_b (w := w) (Nat.le_refl _) W D _ _ (by omega) hK rfl rfl)
  case stop =>
    rintro D c pre W _ _ h _
    exact h.elim
set_option maxRecDepth 100000 in
theorem collect_any (sc sh b bp op cp : Nat) (w : World) (h : ClF w b) (hf : FitsFn w sc sh b bp op cp) :
    Calls Tryz.prog 128 #[fitFn sc sh] w fun e w' => ∃ g k, e = .returned (.slice (some ⟨g, 0, none⟩) 1 k) ∧ w'.cell? ⟨g, 0, none⟩ = some (.int .i64 7) ∧ w.heap.size ≤ g ∧ Below w.heap.size w w' := by
  have HA := Lib.hid (appendSeq_any sc sh b bp op cp w h hf)
  clear h hf
  go_enter Tryz.func128, Tryz.ntmps128
  go_wp2_with fail
  refine HA.out.mono ?_
  rintro e w1 ⟨g, k, rfl, hc, hg, hb⟩
  have HB := Lib.hid hb
  have HC := Lib.hid hc
  clear hb hc
  go_wp2
  go_ret
  exact ⟨g, k, rfl, HC.out, hg, HB.out⟩
set_option maxHeartbeats 1000000 in
set_option maxRecDepth 100000 in
theorem fnodes_any (b bp op cp : Nat) (w : World) (h : ClF w b) (hr : w.cell? ⟨bp, op, none⟩ = some (.int .i64 3)) : Calls Tryz.prog 98 #[.pointer (some ⟨b + 6, 0, none⟩), pod1V bp op cp] w fun e w' => ∃ g k, e = .returned (.slice (some ⟨g, 0, none⟩) 1 k) ∧ From w w' := by
  have HF : Hid (∀ X, From w X → Calls Tryz.prog 43 #[.pointer (some ⟨b + 6, 0, none⟩), pod1V bp op cp] X fun e w' => ∃ sc sh, e = .returned (fitFn sc sh) ∧ FitsFn w' sc sh b bp op cp ∧ From X w') := fun X f => fitting_any b bp op cp X (f.cell hr)
  have HC : Hid (∀ sc sh X, From w X → FitsFn X sc sh b bp op cp → Calls Tryz.prog 128 #[fitFn sc sh] X fun e w' => ∃ g k, e = .returned (.slice (some ⟨g, 0, none⟩) 1 k) ∧ w'.cell? ⟨g, 0, none⟩ = some (.int .i64 7) ∧ X.heap.size ≤ g ∧ Below X.heap.size X w') := fun sc sh X f hf => collect_any sc sh b bp op cp X (h.below f.out) hf
  clear h hr
  go_enter Tryz.func98, Tryz.ntmps98
  go_wp2_with fail
  refine (HF.out _ ((From.refl w).alloc _)).mono ?_
  rintro e W1 ⟨sc, sh, rfl, hff, f1⟩
  have HF1 := Lib.hid (((From.refl w).alloc _).trans f1)
  have HC1 := Lib.hid (HC.out sc sh W1 HF1.out hff)
  clear f1 hff
  go_wp2_with fail
  refine HC1.out.mono ?_
  rintro e W2 ⟨g, k, rfl, -, -, hb⟩
  have HF2 := Lib.hid (HF1.out.step hb)
  clear hb
  go_wp2
  go_ret
  exact ⟨_, _, rfl, HF2.out⟩
set_option maxHeartbeats 4000000 in
set_option maxRecDepth 100000 in
theorem first_any (b bp op cp : Nat) (w : World) (h : ClF w b) (hr : w.cell? ⟨bp, op, none⟩ = some (.int .i64 3)) : Calls Tryz.prog 25 #[.pointer (some ⟨b + 6, 0, none⟩), pod1V bp op cp] w fun e w' => e = .returned (.tuple #[.int .i64 7, .bool true]) ∧ Below w.heap.size w w' := by
  have HFI : Hid (∀ X, From w X → Calls Tryz.prog 43 #[.pointer (some ⟨b + 6, 0, none⟩), pod1V bp op cp] X fun e w' => ∃ sc sh, e = .returned (fitFn sc sh) ∧ FitsFn w' sc sh b bp op cp ∧ From X w') := fun X f => fitting_any b bp op cp X (f.cell hr)
  have HCL := Lib.hid h; clear h hr
  refine (callsIn_wide (n := 6)).1 ?_
  refine callsIn_of_wp_marks Tryz.func25 rfl trivial ?_ rfl
  simp only [Tryz.ntmps25, List.size_toArray, List.length_cons, List.length_nil, Nat.reduceAdd, Nat.reduceSub, Array.replicate_succ, Array.replicate_zero, List.push_toArray, List.append_toArray, List.nil_append, List.cons_append]
  gi_wp2_with fail
  refine ⟨trivial, ?_⟩
  obtain ⟨X1, hX1⟩ : ∃ X1, X1 = ((w.alloc (.cells #[.int .i64 1, .int .i64 0, .bool false, .int .i64 0, .slice (some ⟨bp, op, none⟩) 1 cp, .int .i64 0, .int .i64 1, .int .i64 (-1), .int .i64 (-1)] 40)).alloc (.cells #[.int .i64 0] 3)).alloc (.cells #[.bool false] 4) := ⟨_, rfl⟩
  have fX : From w X1 := by rw [hX1]; exact (((From.refl w).alloc _).alloc _).alloc _
  have c0 : X1.cell? ⟨w.heap.size + 1, 0, none⟩ = some (.int .i64 0) := by rw [hX1]; go_simp
  have f0 : X1.frozen? ⟨w.heap.size + 1, 0, none⟩ = false := by rw [hX1]; go_simp
  have c1 : X1.cell? ⟨w.heap.size + 2, 0, none⟩ = some (.bool false) := by rw [hX1]; go_simp
  have f1 : X1.frozen? ⟨w.heap.size + 2, 0, none⟩ = false := by rw [hX1]; go_simp
  rw [← hX1]
  clear hX1
  have hl1 := cell_lt c1
  refine (callsIn_wide.2 (HFI.out _ fX)).mono ?_
  rintro e W0 ⟨sc, sh, rfl, hff, f2⟩
  have c0 := f2.cell c0
  have f0 := (f2.out.frozen (p := ⟨w.heap.size + 1, 0, none⟩) (by simp only []; omega)).trans f0
  have c1 := f2.cell c1
  have f1 := (f2.out.frozen (p := ⟨w.heap.size + 2, 0, none⟩) hl1).trans f1
  have hb0 : Below w.heap.size w W0 := (fX.trans f2).out
  have HST : Hid (SeqStopsK Fence.wide 5 Tryz.prog 107 #[.pointer (some ⟨sc, 0, none⟩), .pointer (some ⟨sh, 0, none⟩)] (fun _ : Unit => #[.int .i64 7]) KeepsWalks (fun xs => xs = [()]) (fun xs => xs = [()]) 1 W0) := by
    obtain ⟨xc, xp, k0, k1, k2, k3⟩ := hff
    exact nodes1_stops 5 (by omega) b bp op cp sc sh xc xp W0 (HCL.out.below hb0) k0 k1 k2 k3
  have hl0 := cell_lt c1
  clear fX f2 hff hl1
  gi_wp2
  refine wpIn_rangeFunc_ownF rfl (by omega) (gf := 107) (lb := #[.pointer (some ⟨sc, 0, none⟩), .pointer (some ⟨sh, 0, none⟩)]) rfl trivial (enters_of Tryz.func107 (by kernel_rfl) rfl)
    HST.out walksK_t walksK_b (Below.refl _ _) (fun _ => rfl)
    (fun pre W => (pre = [] ∧ W.cell? ⟨w.heap.size + 1, 0, none⟩ = some (.int .i64 0) ∧ W.frozen? ⟨w.heap.size + 1, 0, none⟩ = false ∧ W.cell? ⟨w.heap.size + 2, 0, none⟩ = some (.bool false) ∧ W.frozen? ⟨w.heap.size + 2, 0, none⟩ = false) ∧ Below w.heap.size w W)
    (fun c pre W => (c = .ret ∧ W.cell? ⟨w.heap.size + 1, 0, none⟩ = some (.int .i64 7) ∧ W.cell? ⟨w.heap.size + 2, 0, none⟩ = some (.bool true)) ∧ Below w.heap.size w W)
    (OwnFrom.and (Own.from (fun s A B row hs hg hr => ⟨hs.1, cell_kept hs.2.1 hg hr, (frozen_kept hs.2.1 hg hr).trans hs.2.2.1, cell_kept hs.2.2.2.1 hg hr, (frozen_kept hs.2.2.2.1 hg hr).trans hs.2.2.2.2⟩) _) (ownFrom_below (Nat.le_refl _) (by omega)))
    (fun c => OwnFrom.and (Own.from (fun s A B row hs hg hr => ⟨hs.1, cell_kept hs.2.1 hg hr, cell_kept hs.2.2 hg hr⟩) _) (ownFrom_below (Nat.le_refl _) (by omega)))
    ⟨⟨rfl, c0, f0, c1, f1⟩, hb0⟩
    (fun x => { tmps := #[.pointer (some ⟨b + 6, 0, none⟩), pod1V bp op cp, undef, .pointer (some ⟨w.heap.size, 0, none⟩), .pointer (some ⟨w.heap.size + 1, 0, none⟩), .pointer (some ⟨w.heap.size + 2, 0, none⟩), .int .i64 7, .pointer (some ⟨b + 6, 0, none⟩), pod1V bp op cp, fitFn sc sh, .int .i64 7, undef], defers := [] }) ?assign ?body ?done ?stop
  case assign =>
    intro l x W K hK
    gi_wp2
    exact hK
  case body =>
    rintro l pre x W ⟨⟨rfl, d0, g0, d1, g1⟩, hB⟩ hN
    have HB := Lib.hid hB; clear hB
    gi_wp2
    refine ⟨(KeepsOthers.setCell _ _ _).trans (KeepsOthers.setCell _ _ _), ⟨rfl, ?_, ?_⟩, (HB.out.setCell (p := ⟨w.heap.size + 1, 0, none⟩) (Nat.le_succ _) _).setCell (p := ⟨w.heap.size + 2, 0, none⟩) (by simp only []; omega) _⟩
    · go_simp
    · go_simp
  case done =>
    rintro D xs W hD rfl ⟨⟨h0, -⟩, -⟩ hK
    cases h0
  case stop =>
    rintro D c pre W hD - ⟨⟨rfl, d0, d1⟩, hB⟩ hK
    have HB := Lib.hid hB; clear hB
    gi_wp2
    refine ⟨by simp, .inl ⟨_, _, rfl, run_takeDeferred hK, ?_⟩⟩
    have e0 := cell_kept d0 (grownBy_putObj' _ D (.deferred none)) (fun r e => by cases e; exact ⟨_, hK, rfl⟩)
    have e1 := cell_kept d1 (grownBy_putObj' _ D (.deferred none)) (fun r e => by cases e; exact ⟨_, hK, rfl⟩)
    have HBE : Hid (Below w.heap.size w (W.putObj D (.deferred none))) := HB.out.trans (belowK_b (w := w) (Nat.le_refl _) W D _ _ (by have := hb0.size; omega) hK rfl rfl)
    clear hK d0 d1
    generalize W.putObj D (.deferred none) = X at *
    refine ⟨.tuple #[.int .i64 7, .bool true], ?_, rfl, HBE.out⟩
    simp only [results, Tryz.results25]; go_simp
end Go.Proofs.YtllipidegjpidaaGreatDoor
