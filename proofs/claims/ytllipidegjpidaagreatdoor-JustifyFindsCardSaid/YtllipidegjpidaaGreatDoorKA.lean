/- justify.unneeded, checks, evicted of awake's trial. -/
import Derived.Test.YtllipidegjpidaaGreatDoorJZ
import Derived.Laws.EntriesVeiled
namespace Go.Proofs.YtllipidegjpidaaGreatDoor
set_option linter.all false
open Go.RowKit

/-- The trial of awake. -/
abbrev trialV (b bp op cp : Nat) (nd : Int) (av : Option Addr) (lv cv : Nat) (ad : Option Addr) (ld cd : Nat) : Value := .agg #[.pointer (some ⟨b + 6, 0, none⟩), .int .i64 1, .int .i64 0, .bool false, .int .i64 0, .slice (some ⟨bp, op, none⟩) 1 cp, .int .i64 0, .int .i64 1, .int .i64 (-1), .int .i64 (-1), .int .i64 nd, .bool false, .slice av lv cv, .slice ad ld cd]
set_option maxHeartbeats 4000000 in
set_option maxRecDepth 100000 in
theorem unneeded_any (b bp op cp : Nat) (nd : Int) (av : Option Addr) (lv cv : Nat) (ad : Option Addr) (ld cd : Nat) (w : World) (h : ClF w b) (hr : w.cell? ⟨bp, op, none⟩ = some (.int .i64 3)) :
    Calls Tryz.prog 63 #[trialV b bp op cp nd av lv cv ad ld cd] w fun e w' => e = .returned (.bool true) ∧ From w w' := by
  have HF : Hid (∀ X, From w X → Calls Tryz.prog 98 #[.pointer (some ⟨b + 6, 0, none⟩), pod1V bp op cp] X fun e w' => ∃ g k, e = .returned (.slice (some ⟨g, 0, none⟩) 1 k) ∧ From X w') := fun X f => fnodes_any b bp op cp X (h.below f.out) (f.cell hr)
  clear h hr
  go_enter Tryz.func63, Tryz.ntmps63
  go_wp2_with fail
  refine (HF.out _ ((From.refl w).alloc _)).mono ?_
  rintro e W1 ⟨g, k, rfl, f1⟩
  have HF1 := Lib.hid (((From.refl w).alloc _).trans f1)
  clear f1
  go_wp2
  go_ret
  exact ⟨rfl, HF1.out⟩
/-- The checks. -/
def checksV : Value := .agg #[.int .i64 2, .func (Fn.func 63) #[] #[], .int .i64 3, .func (Fn.func 64) #[] #[], .int .i64 4, .func (Fn.func 65) #[] #[], .int .i64 5, .func (Fn.func 66) #[] #[], .int .i64 6, .func (Fn.func 67) #[] #[], .int .i64 7, .func (Fn.func 68) #[] #[]]
set_option maxRecDepth 100000 in
theorem checks_any (w : World) : Calls Tryz.prog 42 #[] w fun e w' => e = .returned checksV ∧ From w w' := by
  go_enter Tryz.func42, Tryz.ntmps42
  go_wp2
  refine bodyPost_ret (v := checksV) ?_ rfl ⟨rfl, ?_⟩
  · simp only [results, Tryz.results42]; go_simp; rfl
  exact (From.refl w).alloc _
theorem checks_idx0 (w : World) : (Instr.index 92 (.agg #[.int .i64 2, .func (Fn.func 63) #[] #[], .int .i64 3, .func (Fn.func 64) #[] #[], .int .i64 4, .func (Fn.func 65) #[] #[], .int .i64 5, .func (Fn.func 66) #[] #[], .int .i64 6, .func (Fn.func 67) #[] #[], .int .i64 7, .func (Fn.func 68) #[] #[]]) (.int .i64 0)).run Tryz.prog w = .ok (.agg #[.int .i64 2, .func (Fn.func 63) #[] #[]]) w := by kernel_rfl
set_option maxHeartbeats 4000000 in
set_option maxRecDepth 100000 in
theorem evicted_any (b bp op cp : Nat) (nd : Int) (av : Option Addr) (lv cv : Nat) (ad : Option Addr) (ld cd : Nat) (w : World) (h : ClF w b) (hr : w.cell? ⟨bp, op, none⟩ = some (.int .i64 3)) :
    Calls Tryz.prog 24 #[trialV b bp op cp nd av lv cv ad ld cd] w fun e w' => e = .returned (.int .i64 2) ∧ From w w' := by
  have HU : Hid (∀ X, From w X → Calls Tryz.prog 63 #[trialV b bp op cp nd av lv cv ad ld cd] X fun e w' => e = .returned (.bool true) ∧ From X w') := fun X f => unneeded_any b bp op cp nd av lv cv ad ld cd X (h.below f.out) (f.cell hr)
  have HC := Lib.hid checks_any
  clear h hr
  obtain ⟨W0, hW0⟩ : ∃ W0, W0 = w.alloc (.cells #[.pointer (some ⟨b + 6, 0, none⟩), .int .i64 1, .int .i64 0, .bool false, .int .i64 0, .slice (some ⟨bp, op, none⟩) 1 cp, .int .i64 0, .int .i64 1, .int .i64 (-1), .int .i64 (-1), .int .i64 nd, .bool false, .slice av lv cv, .slice ad ld cd] 64) := ⟨_, rfl⟩
  have F0 : From w W0 := by rw [hW0]; exact (From.refl w).alloc _
  have p0 : W0.cell? ⟨w.heap.size, 0, none⟩ = some (.pointer (some ⟨b + 6, 0, none⟩)) := by rw [hW0]; go_simp
  have p1 : W0.cell? ⟨w.heap.size, 1, none⟩ = some (.int .i64 1) := by rw [hW0]; go_simp
  have p2 : W0.cell? ⟨w.heap.size, 2, none⟩ = some (.int .i64 0) := by rw [hW0]; go_simp
  have p3 : W0.cell? ⟨w.heap.size, 3, none⟩ = some (.bool false) := by rw [hW0]; go_simp
  have p4 : W0.cell? ⟨w.heap.size, 4, none⟩ = some (.int .i64 0) := by rw [hW0]; go_simp
  have p5 : W0.cell? ⟨w.heap.size, 5, none⟩ = some (.slice (some ⟨bp, op, none⟩) 1 cp) := by rw [hW0]; go_simp
  have p6 : W0.cell? ⟨w.heap.size, 6, none⟩ = some (.int .i64 0) := by rw [hW0]; go_simp
  have p7 : W0.cell? ⟨w.heap.size, 7, none⟩ = some (.int .i64 1) := by rw [hW0]; go_simp
  have p8 : W0.cell? ⟨w.heap.size, 8, none⟩ = some (.int .i64 (-1)) := by rw [hW0]; go_simp
  have p9 : W0.cell? ⟨w.heap.size, 9, none⟩ = some (.int .i64 (-1)) := by rw [hW0]; go_simp
  have p10 : W0.cell? ⟨w.heap.size, 10, none⟩ = some (.int .i64 nd) := by rw [hW0]; go_simp
  have p11 : W0.cell? ⟨w.heap.size, 11, none⟩ = some (.bool false) := by rw [hW0]; go_simp
  have p12 : W0.cell? ⟨w.heap.size, 12, none⟩ = some (.slice av lv cv) := by rw [hW0]; go_simp
  have p13 : W0.cell? ⟨w.heap.size, 13, none⟩ = some (.slice ad ld cd) := by rw [hW0]; go_simp
  go_enter Tryz.func24, Tryz.ntmps24
  go_wp2_with fail
  rw [← hW0]
  clear hW0
  refine (HC.out _).mono ?_
  rintro e W1 ⟨he, f1⟩
  unfold checksV at he
  subst he
  have p0 := f1.cell p0
  have p1 := f1.cell p1
  have p2 := f1.cell p2
  have p3 := f1.cell p3
  have p4 := f1.cell p4
  have p5 := f1.cell p5
  have p6 := f1.cell p6
  have p7 := f1.cell p7
  have p8 := f1.cell p8
  have p9 := f1.cell p9
  have p10 := f1.cell p10
  have p11 := f1.cell p11
  have p12 := f1.cell p12
  have p13 := f1.cell p13
  have HF1 := Lib.hid (F0.trans f1)
  have hix0 := checks_idx0
  have hwl := cell_lt p0
  have hwl2 : ¬ w.heap.size = W1.heap.size := by omega
  have hwl3 : ¬ W1.heap.size = w.heap.size := by omega
  clear f1 F0
  go_wp2
  refine wp_loop_rounds 1 ?_
  rw [rounds_succ]
  go_wp2_with fail
  refine (HU.out _ (HF1.out.alloc _)).mono ?_
  rintro e W2 ⟨rfl, f2⟩
  have HF2 := Lib.hid ((HF1.out.alloc _).trans f2)
  have hk := f2.cell (show (W1.alloc (.cells #[.int .i64 2, .func (Fn.func 63) #[] #[]] 91)).cell? ⟨W1.heap.size, 0, none⟩ = some (.int .i64 2) by go_simp)
  clear f2
  go_wp2
  go_ret
  exact ⟨rfl, HF2.out⟩
set_option maxHeartbeats 4000000 in
set_option maxRecDepth 100000 in
/-- Verdict's closure: a Bind is missing, or goes to the node. The captured: ok of First, ok of the Bind, the Bind, First's node. -/
theorem vclos_any (c0 c1 c2 c3 c4 c5 : Nat) (bd : Bool) (nd : Int) (w : World) (h0 : w.cell? ⟨c0, 0, none⟩ = some (.bool true)) (h1 : w.cell? ⟨c1, 0, none⟩ = some (.bool bd)) (h2 : w.cell? ⟨c2, 2, none⟩ = some (.int .i64 nd)) (h3 : w.cell? ⟨c3, 0, none⟩ = some (.int .i64 7)) (hb : bd = true → nd = 7) :
    Calls Tryz.prog 26 #[.pointer (some ⟨c0, 0, none⟩), .pointer (some ⟨c1, 0, none⟩), .pointer (some ⟨c2, 0, none⟩), .pointer (some ⟨c3, 0, none⟩), .pointer (some ⟨c4, 0, none⟩), .pointer (some ⟨c5, 0, none⟩)] w fun e w' => e = .returned (.bool (!bd)) ∧ w = w' := by
  cases bd
  · go_enter Tryz.func26, Tryz.ntmps26
    go_wp2
    go_ret
    exact ⟨rfl, rfl⟩
  · have := hb rfl
    subst this
    go_enter Tryz.func26, Tryz.ntmps26
    go_wp2
    go_ret
    exact ⟨rfl, rfl⟩
end Go.Proofs.YtllipidegjpidaaGreatDoor
