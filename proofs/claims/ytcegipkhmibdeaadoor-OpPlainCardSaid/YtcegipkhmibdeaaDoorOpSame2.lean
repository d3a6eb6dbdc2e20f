/- op.Same: two operations are compared by the fields that matter. -/
import Derived.Test.YtcegipkhmibdeaaDoorOpSame
namespace Go.Proofs.YtcegipkhmibdeaaDoor
set_option linter.all false
open Go.RowKit

theorem ownsRow_below {w w' : World} {base E size n : Nat} {v : Value} {xs : List Value} (h : w.ownsRow base E size v n xs) (hb : Below w.heap.size w w') : w'.ownsRow base E size v n xs := by
  refine ⟨h.1, ?_⟩
  rcases h.2 with h2 | ⟨g, cap, cur, hv, hg, hh, r⟩
  · exact .inl h2
  · exact .inr ⟨g, cap, cur, hv, hg, by rw [hb.block g (Array.getElem?_eq_some_iff.1 hh).1]; exact hh, r⟩
set_option maxRecDepth 100000 in
theorem sameStore (w : World) (b : Nat) (k i1 cc1 n1 : Int) (f1 : Bool) (v1 : Value) (k' i2 cc2 n2 : Int) (f2 : Bool) (v2 : Value) (x0 x1 x2 x3 x4 x5 y0 y1 y2 y3 y4 y5 : Value)
    (r0 : w.cell? ⟨b, 0, none⟩ = some x0) (r1 : w.cell? ⟨b, 1, none⟩ = some x1) (r2 : w.cell? ⟨b, 2, none⟩ = some x2) (r3 : w.cell? ⟨b, 3, none⟩ = some x3) (r4 : w.cell? ⟨b, 4, none⟩ = some x4) (r5 : w.cell? ⟨b, 5, none⟩ = some x5) (s0 : w.cell? ⟨b + 1, 0, none⟩ = some y0) (s1 : w.cell? ⟨b + 1, 1, none⟩ = some y1) (s2 : w.cell? ⟨b + 1, 2, none⟩ = some y2) (s3 : w.cell? ⟨b + 1, 3, none⟩ = some y3) (s4 : w.cell? ⟨b + 1, 4, none⟩ = some y4) (s5 : w.cell? ⟨b + 1, 5, none⟩ = some y5) :
    ((((((((((((w.setCell ⟨b, 0, none⟩ (.int .i64 k)).setCell ⟨b, 1, none⟩ (.int .i64 i1)).setCell ⟨b, 2, none⟩ (.int .i64 cc1)).setCell ⟨b, 3, none⟩ (.int .i64 n1)).setCell ⟨b, 4, none⟩ (.bool f1)).setCell ⟨b, 5, none⟩ v1).setCell ⟨b + 1, 0, none⟩ (.int .i64 k')).setCell ⟨b + 1, 1, none⟩ (.int .i64 i2)).setCell ⟨b + 1, 2, none⟩ (.int .i64 cc2)).setCell ⟨b + 1, 3, none⟩ (.int .i64 n2)).setCell ⟨b + 1, 4, none⟩ (.bool f2)).setCell ⟨b + 1, 5, none⟩ v2).cell? ⟨b, 0, none⟩ = some (.int .i64 k) ∧ ((((((((((((w.setCell ⟨b, 0, none⟩ (.int .i64 k)).setCell ⟨b, 1, none⟩ (.int .i64 i1)).setCell ⟨b, 2, none⟩ (.int .i64 cc1)).setCell ⟨b, 3, none⟩ (.int .i64 n1)).setCell ⟨b, 4, none⟩ (.bool f1)).setCell ⟨b, 5, none⟩ v1).setCell ⟨b + 1, 0, none⟩ (.int .i64 k')).setCell ⟨b + 1, 1, none⟩ (.int .i64 i2)).setCell ⟨b + 1, 2, none⟩ (.int .i64 cc2)).setCell ⟨b + 1, 3, none⟩ (.int .i64 n2)).setCell ⟨b + 1, 4, none⟩ (.bool f2)).setCell ⟨b + 1, 5, none⟩ v2).cell? ⟨b, 1, none⟩ = some (.int .i64 i1) ∧ ((((((((((((w.setCell ⟨b, 0, none⟩ (.int .i64 k)).setCell ⟨b, 1, none⟩ (.int .i64 i1)).setCell ⟨b, 2, none⟩ (.int .i64 cc1)).setCell ⟨b, 3, none⟩ (.int .i64 n1)).setCell ⟨b, 4, none⟩ (.bool f1)).setCell ⟨b, 5, none⟩ v1).setCell ⟨b + 1, 0, none⟩ (.int .i64 k')).setCell ⟨b + 1, 1, none⟩ (.int .i64 i2)).setCell ⟨b + 1, 2, none⟩ (.int .i64 cc2)).setCell ⟨b + 1, 3, none⟩ (.int .i64 n2)).setCell ⟨b + 1, 4, none⟩ (.bool f2)).setCell ⟨b + 1, 5, none⟩ v2).cell? ⟨b, 2, none⟩ = some (.int .i64 cc1) ∧ ((((((((((((w.setCell ⟨b, 0, none⟩ (.int .i64 k)).setCell ⟨b, 1, none⟩ (.int .i64 i1)).setCell ⟨b, 2, none⟩ (.int .i64 cc1)).setCell ⟨b, 3, none⟩ (.int .i64 n1)).setCell ⟨b, 4, none⟩ (.bool f1)).setCell ⟨b, 5, none⟩ v1).setCell ⟨b + 1, 0, none⟩ (.int .i64 k')).setCell ⟨b + 1, 1, none⟩ (.int .i64 i2)).setCell ⟨b + 1, 2, none⟩ (.int .i64 cc2)).setCell ⟨b + 1, 3, none⟩ (.int .i64 n2)).setCell ⟨b + 1, 4, none⟩ (.bool f2)).setCell ⟨b + 1, 5, none⟩ v2).cell? ⟨b, 3, none⟩ = some (.int .i64 n1) ∧ ((((((((((((w.setCell ⟨b, 0, none⟩ (.int .i64 k)).setCell ⟨b, 1, none⟩ (.int .i64 i1)).setCell ⟨b, 2, none⟩ (.int .i64 cc1)).setCell ⟨b, 3, none⟩ (.int .i64 n1)).setCell ⟨b, 4, none⟩ (.bool f1)).setCell ⟨b, 5, none⟩ v1).setCell ⟨b + 1, 0, none⟩ (.int .i64 k')).setCell ⟨b + 1, 1, none⟩ (.int .i64 i2)).setCell ⟨b + 1, 2, none⟩ (.int .i64 cc2)).setCell ⟨b + 1, 3, none⟩ (.int .i64 n2)).setCell ⟨b + 1, 4, none⟩ (.bool f2)).setCell ⟨b + 1, 5, none⟩ v2).cell? ⟨b, 4, none⟩ = some (.bool f1) ∧ ((((((((((((w.setCell ⟨b, 0, none⟩ (.int .i64 k)).setCell ⟨b, 1, none⟩ (.int .i64 i1)).setCell ⟨b, 2, none⟩ (.int .i64 cc1)).setCell ⟨b, 3, none⟩ (.int .i64 n1)).setCell ⟨b, 4, none⟩ (.bool f1)).setCell ⟨b, 5, none⟩ v1).setCell ⟨b + 1, 0, none⟩ (.int .i64 k')).setCell ⟨b + 1, 1, none⟩ (.int .i64 i2)).setCell ⟨b + 1, 2, none⟩ (.int .i64 cc2)).setCell ⟨b + 1, 3, none⟩ (.int .i64 n2)).setCell ⟨b + 1, 4, none⟩ (.bool f2)).setCell ⟨b + 1, 5, none⟩ v2).cell? ⟨b, 5, none⟩ = some v1 ∧ ((((((((((((w.setCell ⟨b, 0, none⟩ (.int .i64 k)).setCell ⟨b, 1, none⟩ (.int .i64 i1)).setCell ⟨b, 2, none⟩ (.int .i64 cc1)).setCell ⟨b, 3, none⟩ (.int .i64 n1)).setCell ⟨b, 4, none⟩ (.bool f1)).setCell ⟨b, 5, none⟩ v1).setCell ⟨b + 1, 0, none⟩ (.int .i64 k')).setCell ⟨b + 1, 1, none⟩ (.int .i64 i2)).setCell ⟨b + 1, 2, none⟩ (.int .i64 cc2)).setCell ⟨b + 1, 3, none⟩ (.int .i64 n2)).setCell ⟨b + 1, 4, none⟩ (.bool f2)).setCell ⟨b + 1, 5, none⟩ v2).cell? ⟨b + 1, 0, none⟩ = some (.int .i64 k') ∧ ((((((((((((w.setCell ⟨b, 0, none⟩ (.int .i64 k)).setCell ⟨b, 1, none⟩ (.int .i64 i1)).setCell ⟨b, 2, none⟩ (.int .i64 cc1)).setCell ⟨b, 3, none⟩ (.int .i64 n1)).setCell ⟨b, 4, none⟩ (.bool f1)).setCell ⟨b, 5, none⟩ v1).setCell ⟨b + 1, 0, none⟩ (.int .i64 k')).setCell ⟨b + 1, 1, none⟩ (.int .i64 i2)).setCell ⟨b + 1, 2, none⟩ (.int .i64 cc2)).setCell ⟨b + 1, 3, none⟩ (.int .i64 n2)).setCell ⟨b + 1, 4, none⟩ (.bool f2)).setCell ⟨b + 1, 5, none⟩ v2).cell? ⟨b + 1, 1, none⟩ = some (.int .i64 i2) ∧ ((((((((((((w.setCell ⟨b, 0, none⟩ (.int .i64 k)).setCell ⟨b, 1, none⟩ (.int .i64 i1)).setCell ⟨b, 2, none⟩ (.int .i64 cc1)).setCell ⟨b, 3, none⟩ (.int .i64 n1)).setCell ⟨b, 4, none⟩ (.bool f1)).setCell ⟨b, 5, none⟩ v1).setCell ⟨b + 1, 0, none⟩ (.int .i64 k')).setCell ⟨b + 1, 1, none⟩ (.int .i64 i2)).setCell ⟨b + 1, 2, none⟩ (.int .i64 cc2)).setCell ⟨b + 1, 3, none⟩ (.int .i64 n2)).setCell ⟨b + 1, 4, none⟩ (.bool f2)).setCell ⟨b + 1, 5, none⟩ v2).cell? ⟨b + 1, 2, none⟩ = some (.int .i64 cc2) ∧ ((((((((((((w.setCell ⟨b, 0, none⟩ (.int .i64 k)).setCell ⟨b, 1, none⟩ (.int .i64 i1)).setCell ⟨b, 2, none⟩ (.int .i64 cc1)).setCell ⟨b, 3, none⟩ (.int .i64 n1)).setCell ⟨b, 4, none⟩ (.bool f1)).setCell ⟨b, 5, none⟩ v1).setCell ⟨b + 1, 0, none⟩ (.int .i64 k')).setCell ⟨b + 1, 1, none⟩ (.int .i64 i2)).setCell ⟨b + 1, 2, none⟩ (.int .i64 cc2)).setCell ⟨b + 1, 3, none⟩ (.int .i64 n2)).setCell ⟨b + 1, 4, none⟩ (.bool f2)).setCell ⟨b + 1, 5, none⟩ v2).cell? ⟨b + 1, 3, none⟩ = some (.int .i64 n2) ∧ ((((((((((((w.setCell ⟨b, 0, none⟩ (.int .i64 k)).setCell ⟨b, 1, none⟩ (.int .i64 i1)).setCell ⟨b, 2, none⟩ (.int .i64 cc1)).setCell ⟨b, 3, none⟩ (.int .i64 n1)).setCell ⟨b, 4, none⟩ (.bool f1)).setCell ⟨b, 5, none⟩ v1).setCell ⟨b + 1, 0, none⟩ (.int .i64 k')).setCell ⟨b + 1, 1, none⟩ (.int .i64 i2)).setCell ⟨b + 1, 2, none⟩ (.int .i64 cc2)).setCell ⟨b + 1, 3, none⟩ (.int .i64 n2)).setCell ⟨b + 1, 4, none⟩ (.bool f2)).setCell ⟨b + 1, 5, none⟩ v2).cell? ⟨b + 1, 4, none⟩ = some (.bool f2) ∧ ((((((((((((w.setCell ⟨b, 0, none⟩ (.int .i64 k)).setCell ⟨b, 1, none⟩ (.int .i64 i1)).setCell ⟨b, 2, none⟩ (.int .i64 cc1)).setCell ⟨b, 3, none⟩ (.int .i64 n1)).setCell ⟨b, 4, none⟩ (.bool f1)).setCell ⟨b, 5, none⟩ v1).setCell ⟨b + 1, 0, none⟩ (.int .i64 k')).setCell ⟨b + 1, 1, none⟩ (.int .i64 i2)).setCell ⟨b + 1, 2, none⟩ (.int .i64 cc2)).setCell ⟨b + 1, 3, none⟩ (.int .i64 n2)).setCell ⟨b + 1, 4, none⟩ (.bool f2)).setCell ⟨b + 1, 5, none⟩ v2).cell? ⟨b + 1, 5, none⟩ = some v2 := by
  refine ⟨?_, ?_, ?_, ?_, ?_, ?_, ?_, ?_, ?_, ?_, ?_, ?_⟩
  all_goals go_simp
set_option maxHeartbeats 4000000 in
set_option maxRecDepth 100000 in
theorem opSame_any (k i c n : Int) (f : Bool) (a : Option Addr) (l cp : Nat) (zs : List Int) (k' i' c' n' : Int) (f' : Bool) (a' : Option Addr) (l' cp' : Nat) (zs' : List Int) (w : World) (hx : zs.length * 8 ≤ 140737488351232) (hy : zs'.length * 8 ≤ 140737488351232) (h : IntsAt w (.slice a l cp) zs) (h' : IntsAt w (.slice a' l' cp') zs') :
    Calls Tryd.prog 40 #[opV k i c n f (.slice a l cp), opV k' i' c' n' f' (.slice a' l' cp')] w fun e w' => e = .returned (.bool (sameOp k i c n f zs k' i' c' n' f' zs')) ∧ Below w.heap.size w w' := by
  have hx' : (pZ k zs).length * 8 ≤ 140737488351232 := by unfold pZ; split <;> first | omega | simp
  have hy' : (pZ k' zs').length * 8 ≤ 140737488351232 := by unfold pZ; split <;> first | omega | simp
  have R1 := plain_any k i c n f (.slice a l cp) zs
  have R2 := plain_any k' i' c' n' f' (.slice a' l' cp') zs'
  unfold sameOp
  generalize pI k i = i1 at *
  generalize pC k c = cc1 at *
  generalize pN k n = n1 at *
  generalize pF k f = f1 at *
  generalize pI k' i' = i2 at *
  generalize pC k' c' = cc2 at *
  generalize pN k' n' = n2 at *
  generalize pF k' f' = f2 at *
  generalize pZ k zs = z1 at *
  generalize pZ k' zs' = z2 at *
  generalize hres : eqOp k i1 cc1 n1 f1 z1 k' i2 cc2 n2 f2 z2 = res
  have HE := Lib.hid hres; clear hres
  have HR1 := Lib.hid R1; clear R1
  have HR2 := Lib.hid R2; clear R2
  go_enter Tryd.func40, Tryd.ntmps40
  go_wp2
  obtain ⟨w0, hw0⟩ : ∃ w0, w0 = two w #[.int .i64 k, .int .i64 i, .int .i64 c, .int .i64 n, .bool f, .slice a l cp] #[.int .i64 k', .int .i64 i', .int .i64 c', .int .i64 n', .bool f', .slice a' l' cp'] 41 := ⟨_, rfl⟩
  change Code.wp _ _ _ _ (two w #[.int .i64 k, .int .i64 i, .int .i64 c, .int .i64 n, .bool f, .slice a l cp] #[.int .i64 k', .int .i64 i', .int .i64 c', .int .i64 n', .bool f', .slice a' l' cp'] 41)
  rw [← hw0]
  have p0 : w0.cell? ⟨w.heap.size, 0, none⟩ = some (.int .i64 k) := by rw [hw0]; exact two_1 ..
  have p1 : w0.cell? ⟨w.heap.size, 1, none⟩ = some (.int .i64 i) := by rw [hw0]; exact two_1 ..
  have p2 : w0.cell? ⟨w.heap.size, 2, none⟩ = some (.int .i64 c) := by rw [hw0]; exact two_1 ..
  have p3 : w0.cell? ⟨w.heap.size, 3, none⟩ = some (.int .i64 n) := by rw [hw0]; exact two_1 ..
  have p4 : w0.cell? ⟨w.heap.size, 4, none⟩ = some (.bool f) := by rw [hw0]; exact two_1 ..
  have p5 : w0.cell? ⟨w.heap.size, 5, none⟩ = some (.slice a l cp) := by rw [hw0]; exact two_1 ..
  have q0 : w0.cell? ⟨w.heap.size + 1, 0, none⟩ = some (.int .i64 k') := by rw [hw0]; exact two_2 ..
  have q1 : w0.cell? ⟨w.heap.size + 1, 1, none⟩ = some (.int .i64 i') := by rw [hw0]; exact two_2 ..
  have q2 : w0.cell? ⟨w.heap.size + 1, 2, none⟩ = some (.int .i64 c') := by rw [hw0]; exact two_2 ..
  have q3 : w0.cell? ⟨w.heap.size + 1, 3, none⟩ = some (.int .i64 n') := by rw [hw0]; exact two_2 ..
  have q4 : w0.cell? ⟨w.heap.size + 1, 4, none⟩ = some (.bool f') := by rw [hw0]; exact two_2 ..
  have q5 : w0.cell? ⟨w.heap.size + 1, 5, none⟩ = some (.slice a' l' cp') := by rw [hw0]; exact two_2 ..
  have hs : w0.heap.size = w.heap.size + 1 + 1 := by rw [hw0]; simp [two]
  have hB : Below w.heap.size w w0 := by rw [hw0]; exact ((Below.refl _ w).alloc (Nat.le_refl _) _).alloc (by simp) _
  have hf0 : ∀ j, w0.frozen? ⟨w.heap.size, j, none⟩ = false := by intro j; rw [hw0]; exact two_f1 ..
  have hf1 : ∀ j, w0.frozen? ⟨w.heap.size + 1, j, none⟩ = false := by intro j; rw [hw0]; exact two_f2 ..
  have hlt : w.heap.size < w0.heap.size := by omega
  have hlt1 : w.heap.size + 1 < w0.heap.size := by omega
  clear hw0
  have HS := Lib.hid hs; clear hs
  have HF0 := Lib.hid hf0; clear hf0
  have HF1 := Lib.hid hf1; clear hf1
  have hB0 : Below w0.heap.size w0 w0.drew := (Below.refl _ w0).drew
  have hI := h.below (hB.trans (hB0.mono hB.size))
  refine wp_mono (Q := fun e x w' => e = .normal ∧ ∃ a1 c1 a2 c2, x = { tmps := #[opV k i c n f (.slice a l cp), opV k' i' c' n' f' (.slice a' l' cp'), .pointer (some ⟨w.heap.size, 0, none⟩), .pointer (some ⟨w.heap.size + 1, 0, none⟩), .bool false, opV k i c n f (.slice a l cp), opV k i1 cc1 n1 f1 (.slice a1 z1.length c1), opV k' i' c' n' f' (.slice a' l' cp'), opV k' i2 cc2 n2 f2 (.slice a2 z2.length c2), undef, undef, undef, undef, undef, undef, undef, undef, undef, undef, undef, undef, undef, undef, undef, undef, undef, undef, undef, undef, undef, undef, undef, undef, undef, undef, undef, undef, undef, undef, undef, undef, undef, undef, undef, undef, undef, undef, undef, undef], defers := [] } ∧
    IntsAt w' (.slice a1 z1.length c1) z1 ∧ IntsAt w' (.slice a2 z2.length c2) z2 ∧ Below w.heap.size w w' ∧
    w'.cell? ⟨w.heap.size, 0, none⟩ = some (.int .i64 k) ∧ w'.cell? ⟨w.heap.size, 1, none⟩ = some (.int .i64 i1) ∧ w'.cell? ⟨w.heap.size, 2, none⟩ = some (.int .i64 cc1) ∧ w'.cell? ⟨w.heap.size, 3, none⟩ = some (.int .i64 n1) ∧ w'.cell? ⟨w.heap.size, 4, none⟩ = some (.bool f1) ∧ w'.cell? ⟨w.heap.size, 5, none⟩ = some (.slice a1 z1.length c1) ∧
    w'.cell? ⟨w.heap.size + 1, 0, none⟩ = some (.int .i64 k') ∧ w'.cell? ⟨w.heap.size + 1, 1, none⟩ = some (.int .i64 i2) ∧ w'.cell? ⟨w.heap.size + 1, 2, none⟩ = some (.int .i64 cc2) ∧ w'.cell? ⟨w.heap.size + 1, 3, none⟩ = some (.int .i64 n2) ∧ w'.cell? ⟨w.heap.size + 1, 4, none⟩ = some (.bool f2) ∧ w'.cell? ⟨w.heap.size + 1, 5, none⟩ = some (.slice a2 z2.length c2)) ?region ?rest
  case region =>
    go_region_with (first
      | (go_at_call 36; ((with_reducible refine (HR1.out _ hx hI).mono ?_)); rintro e w1 ⟨a1, c1, rfl, ho1, hb⟩; have hb1 : Below w0.heap.size w0 w1 := hB0.trans hb; have hI' := h'.below (hB.trans (hb1.mono hB.size)); obtain ⟨hc1, hfz1⟩ := bcell hb1; clear hb)
      | (go_at_call 36; ((with_reducible refine (HR2.out _ hy hI').mono ?_)); rintro e w2 ⟨a2, c2, rfl, ho2, hb⟩; have hb2 : Below w0.heap.size w0 w2 := hb1.trans (hb.mono hb1.size); have ho1' := ownsRow_below ho1 hb; have r0 : w2.cell? ⟨w.heap.size, 0, none⟩ = some (.int .i64 k) := (hb2.cell (p := ⟨w.heap.size, 0, none⟩) hlt).trans p0; have r1 : w2.cell? ⟨w.heap.size, 1, none⟩ = some (.int .i64 i) := (hb2.cell (p := ⟨w.heap.size, 1, none⟩) hlt).trans p1; have r2 : w2.cell? ⟨w.heap.size, 2, none⟩ = some (.int .i64 c) := (hb2.cell (p := ⟨w.heap.size, 2, none⟩) hlt).trans p2; have r3 : w2.cell? ⟨w.heap.size, 3, none⟩ = some (.int .i64 n) := (hb2.cell (p := ⟨w.heap.size, 3, none⟩) hlt).trans p3; have r4 : w2.cell? ⟨w.heap.size, 4, none⟩ = some (.bool f) := (hb2.cell (p := ⟨w.heap.size, 4, none⟩) hlt).trans p4; have r5 : w2.cell? ⟨w.heap.size, 5, none⟩ = some (.slice a l cp) := (hb2.cell (p := ⟨w.heap.size, 5, none⟩) hlt).trans p5; have s0 : w2.cell? ⟨w.heap.size + 1, 0, none⟩ = some (.int .i64 k') := (hb2.cell (p := ⟨w.heap.size + 1, 0, none⟩) hlt1).trans q0; have s1 : w2.cell? ⟨w.heap.size + 1, 1, none⟩ = some (.int .i64 i') := (hb2.cell (p := ⟨w.heap.size + 1, 1, none⟩) hlt1).trans q1; have s2 : w2.cell? ⟨w.heap.size + 1, 2, none⟩ = some (.int .i64 c') := (hb2.cell (p := ⟨w.heap.size + 1, 2, none⟩) hlt1).trans q2; have s3 : w2.cell? ⟨w.heap.size + 1, 3, none⟩ = some (.int .i64 n') := (hb2.cell (p := ⟨w.heap.size + 1, 3, none⟩) hlt1).trans q3; have s4 : w2.cell? ⟨w.heap.size + 1, 4, none⟩ = some (.bool f') := (hb2.cell (p := ⟨w.heap.size + 1, 4, none⟩) hlt1).trans q4; have s5 : w2.cell? ⟨w.heap.size + 1, 5, none⟩ = some (.slice a' l' cp') := (hb2.cell (p := ⟨w.heap.size + 1, 5, none⟩) hlt1).trans q5; have fr0 : ∀ j, w2.frozen? ⟨w.heap.size, j, none⟩ = false := fun j => (hb2.frozen (p := ⟨w.heap.size, j, none⟩) hlt).trans (HF0.out j); have fr1 : ∀ j, w2.frozen? ⟨w.heap.size + 1, j, none⟩ = false := fun j => (hb2.frozen (p := ⟨w.heap.size + 1, j, none⟩) hlt1).trans (HF1.out j); clear hc1 hfz1))
    all_goals
      have hbe := hB.trans (hb2.mono hB.size)
      have hlow := ownsRow_low ho2 hb1.size
      have hlow1 := ownsRow_low (base' := w0.heap.size) ho1' (Nat.le_refl _)
      refine ⟨rfl, a1, c1, a2, c2, rfl, ints_of_row (base := w0.heap.size) (E := 2) ?_, ints_of_row (base := w0.heap.size) (E := 2) ?_, ?_, ?_⟩
      · repeat (first | (with_reducible exact hlow1) | with_reducible refine ownsRow_setCell_below ?_ (by first | exact hlt | exact hlt1) _)
      · repeat (first | (with_reducible exact hlow) | with_reducible refine ownsRow_setCell_below ?_ (by first | exact hlt | exact hlt1) _)
      · repeat (first | (with_reducible exact hbe) | with_reducible refine Below.setCell ?_ (by first | exact Nat.le_refl _ | exact Nat.le_succ _) _)
      exact sameStore w2 w.heap.size k i1 cc1 n1 f1 _ k' i2 cc2 n2 f2 _ _ _ _ _ _ _ _ _ _ _ _ _ r0 r1 r2 r3 r4 r5 s0 s1 s2 s3 s4 s5
  case rest =>
    clear p0 p1 p2 p3 p4 p5 q0 q1 q2 q3 q4 q5 hI HR1 HR2 hB hB0 HS HF0 HF1 hlt hlt1 w0
    rintro e x w' ⟨rfl, a1, c1, a2, c2, rfl, hi1, hi2, hb, g0, g1, g2, g3, g4, g5, g6, g7, g8, g9, g10, g11⟩
    cases h0 : k == k'
    · go_wp2
      go_ret
      have hr : res = false := HE.out.symm.trans (by unfold eqOp; simp [h0])
      subst hr; exact ⟨rfl, hb⟩
    cases h1 : i1 == i2
    · go_wp2
      go_ret
      have hr : res = false := HE.out.symm.trans (by unfold eqOp; simp [h0, h1])
      subst hr; exact ⟨rfl, hb⟩
    cases h2 : cc1 == cc2
    · go_wp2
      go_ret
      have hr : res = false := HE.out.symm.trans (by unfold eqOp; simp [h0, h1, h2])
      subst hr; exact ⟨rfl, hb⟩
    cases h3 : n1 == n2
    · go_wp2
      go_ret
      have hr : res = false := HE.out.symm.trans (by unfold eqOp; simp [h0, h1, h2, h3])
      subst hr; exact ⟨rfl, hb⟩
    cases h4 : f1 == f2
    · go_wp2
      go_ret
      have hr : res = false := HE.out.symm.trans (by unfold eqOp; simp [h0, h1, h2, h3, h4])
      subst hr; exact ⟨rfl, hb⟩
    have hr : res = (z1 == z2) := HE.out.symm.trans (by unfold eqOp; simp [h0, h1, h2, h3, h4])
    subst hr
    have hv := vecSame_any _ _ z1 z2 w' hx' hy' hi1 hi2
    have HV := Lib.hid hv; clear hv
    go_wp2_with fail
    refine HV.out.mono ?_
    rintro e w1 ⟨rfl, B1⟩
    go_wp2
    go_ret
    exact ⟨rfl, hb.trans (B1.mono hb.size)⟩
end Go.Proofs.YtcegipkhmibdeaaDoor
