/- The functions of package op that make operations. -/
import Derived.Test.YtcegipkhmibdeaaDoorOp
import Derived.Test.YtcegipkhmibdeaaDoorOpPlain
namespace Go.Proofs.YtcegipkhmibdeaaDoor
set_option linter.all false
open Go.RowKit

set_option maxRecDepth 100000 in
theorem make_class (i n : Int) (f : Bool) (w : World) : Calls Tryd.prog 48 #[.int .i64 i, .int .i64 n, .bool f] w fun e w' => e = .returned (opV 1 i 0 n f (.slice none 0 0)) ∧ Below w.heap.size w w' := by
  go_enter Tryd.func48, Tryd.ntmps48
  go_wp2
  refine bodyPost_ret (v := opV 1 i 0 n f (.slice none 0 0)) ?_ rfl ⟨rfl, ?_⟩
  · simp only [results, Tryd.results48]
    go_simp
  · exact (Below.refl _ w).alloc (Nat.le_refl _) _
set_option maxRecDepth 100000 in
theorem make_drop (i : Int) (w : World) : Calls Tryd.prog 49 #[.int .i64 i] w fun e w' => e = .returned (opV 3 i 0 0 false (.slice none 0 0)) ∧ Below w.heap.size w w' := by
  go_enter Tryd.func49, Tryd.ntmps49
  go_wp2
  refine bodyPost_ret (v := opV 3 i 0 0 false (.slice none 0 0)) ?_ rfl ⟨rfl, ?_⟩
  · simp only [results, Tryd.results49]
    go_simp
  · exact (Below.refl _ w).alloc (Nat.le_refl _) _
set_option maxRecDepth 100000 in
theorem make_delete (i : Int) (w : World) : Calls Tryd.prog 50 #[.int .i64 i] w fun e w' => e = .returned (opV 5 i 0 0 false (.slice none 0 0)) ∧ Below w.heap.size w w' := by
  go_enter Tryd.func50, Tryd.ntmps50
  go_wp2
  refine bodyPost_ret (v := opV 5 i 0 0 false (.slice none 0 0)) ?_ rfl ⟨rfl, ?_⟩
  · simp only [results, Tryd.results50]
    go_simp
  · exact (Below.refl _ w).alloc (Nat.le_refl _) _
set_option maxRecDepth 100000 in
theorem make_tick (n : Int) (w : World) : Calls Tryd.prog 51 #[.int .i64 n] w fun e w' => e = .returned (opV 6 0 0 n false (.slice none 0 0)) ∧ Below w.heap.size w w' := by
  go_enter Tryd.func51, Tryd.ntmps51
  go_wp2
  refine bodyPost_ret (v := opV 6 0 0 n false (.slice none 0 0)) ?_ rfl ⟨rfl, ?_⟩
  · simp only [results, Tryd.results51]
    go_simp
  · exact (Below.refl _ w).alloc (Nat.le_refl _) _
set_option maxRecDepth 100000 in
theorem make_cycle (w : World) : Calls Tryd.prog 52 #[] w fun e w' => e = .returned (opV 7 0 0 0 false (.slice none 0 0)) ∧ Below w.heap.size w w' := by
  go_enter Tryd.func52, Tryd.ntmps52
  go_wp2
  refine bodyPost_ret (v := opV 7 0 0 0 false (.slice none 0 0)) ?_ rfl ⟨rfl, ?_⟩
  · simp only [results, Tryd.results52]
    go_simp
  · exact (Below.refl _ w).alloc (Nat.le_refl _) _
set_option maxRecDepth 100000 in
theorem make_node (i : Int) (am : Value) (zs : List Int) (w : World) (hz : zs.length * 8 ≤ 140737488351232) (h : IntsAt w am zs) : Calls Tryd.prog 45 #[.int .i64 i, am] w (RetOp w 2 i 0 0 false zs) := by
  have h' := h.below ((Below.refl _ w).alloc (Nat.le_refl _) (.cells #[.int .i64 0, .int .i64 0, .int .i64 0, .int .i64 0, .bool false, .slice none 0 0] 41))
  clear h
  obtain ⟨a0, c0, rfl, -⟩ := id h'
  have HC := Lib.hid (opClone_any 2 i 0 0 false (.slice a0 zs.length c0) zs)
  have HX := Lib.hid hz; clear hz
  have HH := Lib.hid h'; clear h'
  obtain ⟨l, hl⟩ : ∃ l, l = zs.length := ⟨_, rfl⟩
  rw [← hl] at HC HH HX ⊢
  have HL := Lib.hid hl; clear hl
  go_enter Tryd.func45, Tryd.ntmps45
  go_wp2_with fail
  refine (HC.out _ HX.out HH.out).mono ?_
  rintro e w' ⟨a', c', rfl, hown, hb⟩
  obtain ⟨hc, hf⟩ := bcell hb
  have r0 : w'.cell? ⟨w.heap.size, 0, none⟩ = some (.int .i64 0) := by rw [hc _ _ (by simp)]; go_simp
  have r1 : w'.cell? ⟨w.heap.size, 1, none⟩ = some (.int .i64 0) := by rw [hc _ _ (by simp)]; go_simp
  have r2 : w'.cell? ⟨w.heap.size, 2, none⟩ = some (.int .i64 0) := by rw [hc _ _ (by simp)]; go_simp
  have r3 : w'.cell? ⟨w.heap.size, 3, none⟩ = some (.int .i64 0) := by rw [hc _ _ (by simp)]; go_simp
  have r4 : w'.cell? ⟨w.heap.size, 4, none⟩ = some (.bool false) := by rw [hc _ _ (by simp)]; go_simp
  have r5 : w'.cell? ⟨w.heap.size, 5, none⟩ = some (.slice none 0 0) := by rw [hc _ _ (by simp)]; go_simp
  rw [← HL.out] at hown ⊢
  go_wp2
  refine bodyPost_ret (v := opV 2 i 0 0 false (.slice a' l c')) ?_ rfl ⟨a', c', by rw [← HL.out], ?_, ?_⟩
  · simp only [results, Tryd.results45]
    go_simp
  · rw [← HL.out]
    refine ownsRow_low ?_ (show w.heap.size ≤ w.heap.size + 1 by omega)
    have hown' : w'.ownsRow (w.heap.size + 1) 2 1 (.slice a' l c') l (zs.map (Value.int .i64)) := by simpa using hown
    repeat (first | (with_reducible exact hown') | with_reducible refine ownsRow_setCell_below ?_ (Nat.lt_succ_self _) _)
  · have hb0 : Below w.heap.size w w' := ((Below.refl _ w).alloc (Nat.le_refl _) _).trans (hb.mono (by simp))
    repeat (first | (with_reducible exact hb0) | with_reducible refine Below.setCell ?_ (by exact Nat.le_refl _) _)
set_option maxRecDepth 100000 in
theorem make_pod (i c n : Int) (am : Value) (zs : List Int) (w : World) (hz : zs.length * 8 ≤ 140737488351232) (h : IntsAt w am zs) : Calls Tryd.prog 46 #[.int .i64 i, .int .i64 c, .int .i64 n, am] w (RetOp w 4 i c n false zs) := by
  have h' := h.below ((Below.refl _ w).alloc (Nat.le_refl _) (.cells #[.int .i64 0, .int .i64 0, .int .i64 0, .int .i64 0, .bool false, .slice none 0 0] 41))
  clear h
  obtain ⟨a0, c0, rfl, -⟩ := id h'
  have HC := Lib.hid (opClone_any 4 i c n false (.slice a0 zs.length c0) zs)
  have HX := Lib.hid hz; clear hz
  have HH := Lib.hid h'; clear h'
  obtain ⟨l, hl⟩ : ∃ l, l = zs.length := ⟨_, rfl⟩
  rw [← hl] at HC HH HX ⊢
  have HL := Lib.hid hl; clear hl
  go_enter Tryd.func46, Tryd.ntmps46
  go_wp2_with fail
  refine (HC.out _ HX.out HH.out).mono ?_
  rintro e w' ⟨a', c', rfl, hown, hb⟩
  obtain ⟨hc, hf⟩ := bcell hb
  have r0 : w'.cell? ⟨w.heap.size, 0, none⟩ = some (.int .i64 0) := by rw [hc _ _ (by simp)]; go_simp
  have r1 : w'.cell? ⟨w.heap.size, 1, none⟩ = some (.int .i64 0) := by rw [hc _ _ (by simp)]; go_simp
  have r2 : w'.cell? ⟨w.heap.size, 2, none⟩ = some (.int .i64 0) := by rw [hc _ _ (by simp)]; go_simp
  have r3 : w'.cell? ⟨w.heap.size, 3, none⟩ = some (.int .i64 0) := by rw [hc _ _ (by simp)]; go_simp
  have r4 : w'.cell? ⟨w.heap.size, 4, none⟩ = some (.bool false) := by rw [hc _ _ (by simp)]; go_simp
  have r5 : w'.cell? ⟨w.heap.size, 5, none⟩ = some (.slice none 0 0) := by rw [hc _ _ (by simp)]; go_simp
  rw [← HL.out] at hown ⊢
  go_wp2
  refine bodyPost_ret (v := opV 4 i c n false (.slice a' l c')) ?_ rfl ⟨a', c', by rw [← HL.out], ?_, ?_⟩
  · simp only [results, Tryd.results46]
    go_simp
  · rw [← HL.out]
    refine ownsRow_low ?_ (show w.heap.size ≤ w.heap.size + 1 by omega)
    have hown' : w'.ownsRow (w.heap.size + 1) 2 1 (.slice a' l c') l (zs.map (Value.int .i64)) := by simpa using hown
    repeat (first | (with_reducible exact hown') | with_reducible refine ownsRow_setCell_below ?_ (Nat.lt_succ_self _) _)
  · have hb0 : Below w.heap.size w w' := ((Below.refl _ w).alloc (Nat.le_refl _) _).trans (hb.mono (by simp))
    repeat (first | (with_reducible exact hb0) | with_reducible refine Below.setCell ?_ (by exact Nat.le_refl _) _)
end Go.Proofs.YtcegipkhmibdeaaDoor
