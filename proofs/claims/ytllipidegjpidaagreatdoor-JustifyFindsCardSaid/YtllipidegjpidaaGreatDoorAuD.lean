/- vec.Add. -/
import Derived.Test.YtllipidegjpidaaGreatDoorAuC
import Derived.Test.YtllipidegjpidaaGreatDoorOpsI
namespace Go.Proofs.YtllipidegjpidaaGreatDoor
set_option linter.all false
open Go.RowKit

theorem cell_new (w : World) (cs : Array Value) (e : TypeId) (j : Nat) : (w.alloc (.cells cs e)).cell? ⟨w.heap.size, j, none⟩ = cs[j]? := by
  unfold World.cell?
  rw [show (w.alloc (.cells cs e)).heap[w.heap.size]? = some (.cells cs e (0, 0)) from heap_alloc_new w _]
  rfl
theorem made_cell (w : World) (d : Nat) (t : TypeId) (j : Nat) (hj : j < d) : (w.alloc (.cells (madeCells #[.int .i64 0] d) t)).cell? ⟨w.heap.size, j, none⟩ = some (.int .i64 0) ∧ (w.alloc (.cells (madeCells #[.int .i64 0] d) t)).frozen? ⟨w.heap.size, j, none⟩ = false := by
  refine ⟨?_, by go_simp⟩
  rw [cell_new, ← Array.getElem?_toList, toList_madeCells_one, List.getElem?_replicate, if_pos hj]
theorem infoI64 : (Tryz.prog.info? 2).map (fun i => (i.zero, i.size, i.bytes)) = some (some (.int .i64 0), 1, 8) := by kernel_rfl
theorem make_run (d : Nat) (hd : d ≤ 1000000) (w : World) : (Instr.makeSlice 35 (.int .i64 d) (.int .i64 d)).run Tryz.prog w = .ok (.slice (some ⟨w.heap.size, 0, none⟩) d d) (w.alloc (.cells (madeCells #[.int .i64 0] d) 2)) := by
  obtain ⟨i, hi, hz, hz1, hz2⟩ := info_parts infoI64
  have h := run_make (P := Tryz.prog) w 35 2 i (.int .i64 0) Tryz.underlying35 hi hz .i64 .i64 d d (by omega) (Int.le_refl _) (by rw [hz2]; omega) (by omega)
  rw [hz1] at h
  simp only [Int.toNat_natCast, Nat.mul_one] at h
  exact h
/-- A row of numbers in a block that may be written. -/
def RowOf (w : World) (g d : Nat) (f : Nat → Int) : Prop := ∀ j, j < d → w.cell? ⟨g, j, none⟩ = some (.int .i64 (f j)) ∧ w.frozen? ⟨g, j, none⟩ = false
theorem RowOf.made (w : World) (d : Nat) : RowOf (w.alloc (.cells (madeCells #[.int .i64 0] d) 2)) w.heap.size d (fun _ => 0) := fun j hj => made_cell w d _ j hj
theorem RowOf.set {w : World} {g d k : Nat} {f f' : Nat → Int} {x : Int} (h : RowOf w g d f) (hk : k < d) (hx : f' k = x) (hf : ∀ j, j ≠ k → f' j = f j) : RowOf (w.setCell ⟨g, k, none⟩ (.int .i64 x)) g d f' := fun j hj => by
  obtain ⟨h1, h2⟩ := h j hj
  refine ⟨?_, by rw [World.frozen?_setCell]; exact h2⟩
  by_cases e : j = k
  · subst e; rw [hx]; go_simp
  · rw [hf j e, World.cell?_setCell_other _ _ _ _ (by intro e'; injection e' with _ e2 _; exact e e2.symm)]
    exact h1
set_option maxHeartbeats 4000000 in
set_option maxRecDepth 100000 in
theorem vadd_any (v : Value) (vs : List (List Int)) (d : Nat) (w : World) (h : AtVecs w v vs) (h0 : 0 < vs.length) (hn : vs.length ≤ 1000) (hd : d ≤ 1000) (hl : ∀ j, j < vs.length → (vAt vs j).length = d) (hm : Mild vs) :
    Calls Tryz.prog 143 #[v] w fun e w' => ∃ a cp, e = .returned (.tuple #[.slice a d cp, .bool true]) ∧ IntsNew w.heap.size w' (.slice a d cp) (vsum d vs) ∧ Below w.heap.size w w' := by
  have HAT : Hid (∀ w', From w w' → AtVecs w' v vs) := fun w' hf => h.below hf.out
  obtain ⟨a, cap, rfl, hget⟩ := h.get
  obtain ⟨b, off, aa0, cc0, rfl, hb, hc0, -⟩ := hget 0 h0
  have HS : Hid (∀ i w', From w w' → i < d → Calls Tryz.prog 167 #[.slice (some ⟨b, off, none⟩) vs.length cap, .int .i64 i] w' fun e w'' => e = .returned (.tuple #[.int .i64 (colsum vs i), .bool true]) ∧ w' = w'') := fun i w' hf hi => sum_any _ vs i w' (HAT.out w' hf) (fun j hj => by rw [hl j hj]; exact hi) hn hm (by omega)
  have hcs : ∀ j, j < vs.length → ∃ aa cc, w.cell? ⟨b, off + j, none⟩ = some (.slice aa d cc) := fun j hj => by
    obtain ⟨b', off', aa, cc, e, _, hc, _⟩ := hget j hj
    cases e
    rw [hl j hj] at hc
    exact ⟨aa, cc, hc⟩
  have HCS := Lib.hid hcs
  rw [hl 0 h0, Nat.add_zero] at hc0
  obtain ⟨q, hq⟩ : ∃ q, q = vs.length := ⟨_, rfl⟩
  rw [← hq] at h0 hn HCS HS ⊢
  obtain ⟨W0, hW0⟩ : ∃ W0, W0 = w.alloc (.cells #[.slice (some ⟨b, off, none⟩) q cap] 226) := ⟨_, rfl⟩
  have F0 : From w W0 := by rw [hW0]; exact (From.refl w).alloc _
  have g0 : W0.cell? ⟨w.heap.size, 0, none⟩ = some (.slice (some ⟨b, off, none⟩) q cap) := by rw [hW0]; go_simp
  have hCo : Hid (Calls Tryz.prog 165 #[.slice (some ⟨b, off, none⟩) q cap, .func (Fn.func 166) #[] #[.pointer (some ⟨w.heap.size, 0, none⟩)]] W0 fun e w' => e = .returned (.bool false) ∧ W0 = w') := contains_none _ d q b off cap W0 hn g0 (fun j hj => by obtain ⟨aa, cc, h⟩ := HCS.out j hj; exact ⟨aa, cc, F0.cell h⟩)
  have c00 := F0.cell hc0
  have hsz1 : w.heap.size < W0.heap.size := by rw [hW0]; simp
  have hsz2 : ¬ w.heap.size = W0.heap.size := by omega
  have hsz3 : ¬ W0.heap.size = w.heap.size := by omega
  clear h hget hcs hl hm hq hc0
  have hqi : (0 : Int) < (q : Int) := by omega
  have hq2 : ((q : Int) == 0) = false := by rw [beq_eq_false_iff_ne]; omega
  go_enter Tryz.func143, Tryz.ntmps143
  go_wp2_with fail
  rw [← hW0]
  clear hW0
  refine hCo.out.mono ?_
  rintro e w1 ⟨rfl, rfl⟩
  have hmk := make_run d (by omega)
  have HRW : Hid (RowOf (W0.alloc (.cells (madeCells #[.int .i64 0] d) 2)) W0.heap.size d (fun _ => 0)) := RowOf.made W0 d
  have FW0 := From.refl W0
  go_wp2
  go_loopw [23] (fun iv wr => ∃ k : Nat, k ≤ d ∧ iv = .int .i64 k ∧ Hid (RowOf wr W0.heap.size d (fun j => if j < k then colsum vs j else 0)) ∧ W0.heap.size < wr.heap.size ∧ From W0 wr) (fun iv _ => d - (intOf iv).toNat)
  case atStart => exact ⟨0, Nat.zero_le _, rfl, HRW.out, by simp, FW0.alloc _⟩
  case round =>
    obtain ⟨k, hk, rfl, HR, hgs, hfw⟩ := hrel
    have hki : (0 : Int) ≤ (k : Int) := by omega
    by_cases hlt : k < d
    · have hkl : (k : Int) < (d : Int) := by omega
      obtain ⟨pc, pf⟩ := HR.out k hlt
      have g1 := hfw.cell g0
      have HRN : Hid (RowOf (wr.setCell ⟨W0.heap.size, k, none⟩ (.int .i64 (colsum vs k))) W0.heap.size d (fun j => if j < k + 1 then colsum vs j else 0)) := HR.out.set hlt (by simp) (fun j hj => by
        by_cases h : j < k
        · rw [if_pos h, if_pos (by omega)]
        · rw [if_neg h, if_neg (by omega)])
      have HSk := Lib.hid (HS.out k wr (F0.trans hfw) hlt)
      generalize colsum vs k = s at *
      go_wp2_with fail
      refine HSk.out.mono ?_
      rintro e w2 ⟨rfl, rfl⟩
      go_wp2
      go_roundw
      case rel => exact ⟨k + 1, by omega, by go_num, HRN.out, by simpa using hgs, ⟨below_set hfw.out (Nat.le_refl _) _⟩⟩
      case measure => first | (simp [intOf]; omega) | omega
    · have hkl : ¬ ((k : Int) < (d : Int)) := by omega
      go_wp2
      go_ret2
      refine ⟨_, _, rfl, ⟨_, d, by rw [vsum_len], .inr ⟨W0.heap.size, 0, rfl, by omega, hgs, fun j hj => ?_⟩⟩, (F0.trans hfw).out⟩
      rw [vsum_len] at hj
      rw [Nat.zero_add, vsum_get hj]
      have h1 := (HR.out j hj).1
      dsimp only at h1
      rw [if_pos (by omega)] at h1
      exact h1
end Go.Proofs.YtllipidegjpidaaGreatDoor
