/- phase.Run and its reference: what they return, over the events of a slice. -/
import Derived.Test.YtcegipkhmibdeaaDoorPhase
import Derived.Deep.LoopGhost
import Derived.Lib.Hide
namespace Go.Proofs.YtcegipkhmibdeaaDoor
set_option linter.all false
open Go.RowKit

/-- What any events lead to: the phase, and how many of them were applied. -/
def runP (p : Int) : List Int → Int × Nat
  | [] => (p, 0)
  | e :: es => if nx p e = 0 then (p, 0) else ((runP (nx p e) es).1, (runP (nx p e) es).2 + 1)

/-- The slice's elements. -/
def IntsAt (w : World) (v : Value) (zs : List Int) : Prop :=
  ∃ a cap, v = .slice a zs.length cap ∧ (zs = [] ∨ ∃ b off, a = some ⟨b, off, none⟩ ∧ b < w.heap.size ∧ ∀ j, j < zs.length → w.cell? ⟨b, off + j, none⟩ = some (.int .i64 (zs.getD j 0)))
theorem IntsAt.below {w w' : World} {v : Value} {zs : List Int} (h : IntsAt w v zs) (hb : Below w.heap.size w w') : IntsAt w' v zs := by
  obtain ⟨a, cap, rfl, h | ⟨b, off, rfl, hlt, hc⟩⟩ := h
  · exact ⟨a, cap, rfl, .inl h⟩
  · exact ⟨_, cap, rfl, .inr ⟨b, off, rfl, Nat.lt_of_lt_of_le hlt hb.size, fun j hj => (hb.cell (p := ⟨b, off + j, none⟩) hlt).trans (hc j hj)⟩⟩

theorem runP_step {p : Int} {zs : List Int} {k : Nat} (hk : k < zs.length) : runP p (zs.drop k) = if nx p (zs.getD k 0) = 0 then (p, 0) else ((runP (nx p (zs.getD k 0)) (zs.drop (k + 1))).1, (runP (nx p (zs.getD k 0)) (zs.drop (k + 1))).2 + 1) := by
  rw [List.drop_eq_getElem_cons hk, runP, List.getD_eq_getElem?_getD, List.getElem?_eq_getElem hk]; rfl
theorem runP_le (p : Int) (zs : List Int) : (runP p zs).2 ≤ zs.length := by
  induction zs generalizing p with
  | nil => simp [runP]
  | cons e es ih => simp only [runP]; split; · simp
                    · have := ih (nx p e); simp; omega

set_option maxRecDepth 100000 in
theorem run_some (p : Int) (b off cap : Nat) (zs : List Int) (w : World) (hz : zs.length ≤ 140737488351232) (hb : b < w.heap.size)
    (hc : ∀ j, j < zs.length → w.cell? ⟨b, off + j, none⟩ = some (.int .i64 (zs.getD j 0))) :
    Calls Tryd.prog 26 #[.int .i64 p, .slice (some ⟨b, off, none⟩) zs.length cap] w fun r w' => r = .returned (.tuple #[.int .i64 (runP p zs).1, .int .i64 (runP p zs).2]) ∧ Below w.heap.size w w' := by
  obtain ⟨len, hlen⟩ : ∃ n, n = zs.length := ⟨_, rfl⟩
  rw [← hlen] at hz hc ⊢
  have HL := Lib.hid hlen; clear hlen
  have HC := Lib.hid hc; clear hc
  go_enter Tryd.func26, Tryd.ntmps26
  go_wp2
  go_loopw [0, 12] (fun q i wr => ∃ (k : Nat) (x : Int), k ≤ len ∧ i = .int .i64 k ∧ q = .int .i64 x ∧ Hid (runP p zs = ((runP x (zs.drop k)).1, (runP x (zs.drop k)).2 + k)) ∧ Below w.heap.size w wr) (fun _ i _ => len - (intOf i).toNat)
  case atStart => exact ⟨0, p, Nat.zero_le _, rfl, rfl, by rfl, Below.refl _ _⟩
  case round =>
    obtain ⟨k, x, hk, rfl, rfl, hrun, hbel⟩ := hrel
    by_cases hlt : k < len
    · obtain ⟨e, he⟩ : ∃ e, e = zs.getD k 0 := ⟨_, rfl⟩
      have hcell : wr.cell? ⟨b, off + k, none⟩ = some (.int .i64 e) := by rw [he]; exact (hbel.cell (p := ⟨b, off + k, none⟩) hb).trans (HC.out k hlt)
      have hstep := runP_step (p := x) (zs := zs) (k := k) (by rw [← HL.out]; exact hlt)
      rw [← he] at hstep
      clear he
      by_cases hn : nx x e = 0
      · have hfin : Hid ((runP p zs).1 = x ∧ (runP p zs).2 = k) := by rw [hrun.out, hstep, if_pos hn]; exact ⟨rfl, by simp⟩
        have hf : (nx x e != 0) = false := by simp [hn]
        clear hstep hn hrun
        go_wp2_with (go_at_call 24; refine (next_any _ _ _).mono ?_; rintro e1 w' ⟨rfl, hb1⟩)
        go_ret2
        exact ⟨by rw [hfin.out.1, hfin.out.2]; rfl, hbel.trans (hb1.mono hbel.size)⟩
      · have hfin : Hid (runP p zs = ((runP (nx x e) (zs.drop (k + 1))).1, (runP (nx x e) (zs.drop (k + 1))).2 + (k + 1))) := by rw [hrun.out, hstep, if_neg hn]; show (_, _) = _; rw [Nat.add_assoc, Nat.add_comm 1 k]
        have hf : (nx x e != 0) = true := by simp [hn]
        clear hstep hn hrun
        go_wp2_with (go_at_call 24; refine (next_any _ _ _).mono ?_; rintro e1 w' ⟨rfl, hb1⟩)
        go_roundw
        case rel => exact ⟨k + 1, _, by omega, by go_num, rfl, hfin, hbel.trans (hb1.mono hbel.size)⟩
        case measure => simp [intOf]; omega
    · have hk' : zs.drop k = [] := List.drop_eq_nil_of_le (by rw [← HL.out]; omega)
      have hkl : Hid (k = len) := by show k = len; omega
      have hfin : Hid (runP p zs = (x, k)) := by rw [hrun.out, hk']; show (_, _) = _; simp [runP]
      clear hk' hrun
      go_wp2
      go_ret2
      exact ⟨by rw [hfin.out, ← hkl.out]; rfl, hbel⟩

/-- A slice without elements, a nil one too. -/
theorem run_none (p : Int) (a : Option Addr) (cap : Nat) (w : World) :
    Calls Tryd.prog 26 #[.int .i64 p, .slice a 0 cap] w fun r w' => r = .returned (.tuple #[.int .i64 p, .int .i64 0]) ∧ Below w.heap.size w w' := by
  go_enter Tryd.func26, Tryd.ntmps26
  go_wp2
  refine wp_loop_rounds 1 ?_
  rw [rounds_succ]
  go_wp2
  go_ret2
  exact ⟨rfl, Below.refl _ _⟩
theorem run_any (p : Int) (v : Value) (zs : List Int) (w : World) (hz : zs.length ≤ 140737488351232) (h : IntsAt w v zs) :
    Calls Tryd.prog 26 #[.int .i64 p, v] w fun r w' => r = .returned (.tuple #[.int .i64 (runP p zs).1, .int .i64 (runP p zs).2]) ∧ Below w.heap.size w w' := by
  obtain ⟨a, cap, rfl, rfl | ⟨b, off, rfl, hlt, hc⟩⟩ := h
  · exact run_none p a cap w
  · exact run_some p b off cap zs w hz hlt hc

set_option maxRecDepth 100000 in
theorem refRun_some (p : Int) (b off cap : Nat) (zs : List Int) (w : World) (hz : zs.length ≤ 140737488351232)
    (hc : ∀ j, j < zs.length → w.cell? ⟨b, off + j, none⟩ = some (.int .i64 (zs.getD j 0))) :
    Calls Tryd.prog 27 #[.int .i64 p, .slice (some ⟨b, off, none⟩) zs.length cap] w fun r w' => r = .returned (.tuple #[.int .i64 (runP p zs).1, .int .i64 (runP p zs).2]) ∧ w = w' := by
  obtain ⟨len, hlen⟩ : ∃ n, n = zs.length := ⟨_, rfl⟩
  rw [← hlen] at hz hc ⊢
  have HL := Lib.hid hlen; clear hlen
  have HC := Lib.hid hc; clear hc
  go_enter Tryd.func27, Tryd.ntmps27
  go_wp2
  go_loop [0, 6] (fun q i => ∃ (k : Nat) (x : Int), k ≤ len ∧ i = .int .i64 k ∧ q = .int .i64 x ∧ Hid (runP p zs = ((runP x (zs.drop k)).1, (runP x (zs.drop k)).2 + k))) (fun _ i => len - (intOf i).toNat)
  case atStart => exact ⟨0, p, Nat.zero_le _, rfl, rfl, by rfl⟩
  case round =>
    obtain ⟨k, x, hk, rfl, rfl, hrun⟩ := hrel
    by_cases hlt : k < len
    · obtain ⟨e, he⟩ : ∃ e, e = zs.getD k 0 := ⟨_, rfl⟩
      have hcell : w.cell? ⟨b, off + k, none⟩ = some (.int .i64 e) := by rw [he]; exact HC.out k hlt
      have hstep := runP_step (p := x) (zs := zs) (k := k) (by rw [← HL.out]; exact hlt)
      rw [← he] at hstep
      clear he
      by_cases hn : nx x e = 0
      · have hfin : Hid ((runP p zs).1 = x ∧ (runP p zs).2 = k) := by rw [hrun.out, hstep, if_pos hn]; exact ⟨rfl, by simp⟩
        have hf : (nx x e != 0) = false := by simp [hn]
        clear hstep hn hrun
        go_wp2_with (go_at_call 25; refine (refNext_any _ _ _).mono ?_; rintro e1 w' ⟨rfl, rfl⟩)
        go_ret2
        exact ⟨by rw [hfin.out.1, hfin.out.2]; rfl, rfl⟩
      · have hfin : Hid (runP p zs = ((runP (nx x e) (zs.drop (k + 1))).1, (runP (nx x e) (zs.drop (k + 1))).2 + (k + 1))) := by rw [hrun.out, hstep, if_neg hn]; show (_, _) = _; rw [Nat.add_assoc, Nat.add_comm 1 k]
        have hf : (nx x e != 0) = true := by simp [hn]
        clear hstep hn hrun
        go_wp2_with (go_at_call 25; refine (refNext_any _ _ _).mono ?_; rintro e1 w' ⟨rfl, rfl⟩)
        go_round
        case rel => exact ⟨k + 1, _, by omega, by go_num, rfl, hfin⟩
        case measure => simp [intOf]; omega
    · have hk' : zs.drop k = [] := List.drop_eq_nil_of_le (by rw [← HL.out]; omega)
      have hkl : Hid (k = len) := by show k = len; omega
      have hfin : Hid (runP p zs = (x, k)) := by rw [hrun.out, hk']; show (_, _) = _; simp [runP]
      clear hk' hrun
      go_wp2
      go_ret2
      exact ⟨by rw [hfin.out]; rfl, rfl⟩
theorem refRun_none (p : Int) (a : Option Addr) (cap : Nat) (w : World) :
    Calls Tryd.prog 27 #[.int .i64 p, .slice a 0 cap] w fun r w' => r = .returned (.tuple #[.int .i64 p, .int .i64 0]) ∧ w = w' := by
  go_enter Tryd.func27, Tryd.ntmps27
  go_wp2
  refine wp_loop_rounds 1 ?_
  rw [rounds_succ]
  go_wp2
  go_ret2
  exact ⟨rfl, rfl⟩
theorem refRun_any (p : Int) (v : Value) (zs : List Int) (w : World) (hz : zs.length ≤ 140737488351232) (h : IntsAt w v zs) :
    Calls Tryd.prog 27 #[.int .i64 p, v] w fun r w' => r = .returned (.tuple #[.int .i64 (runP p zs).1, .int .i64 (runP p zs).2]) ∧ w = w' := by
  obtain ⟨a, cap, rfl, rfl | ⟨b, off, rfl, hlt, hc⟩⟩ := h
  · exact refRun_none p a cap w
  · exact refRun_some p b off cap zs w hz hc
end Go.Proofs.YtcegipkhmibdeaaDoor
