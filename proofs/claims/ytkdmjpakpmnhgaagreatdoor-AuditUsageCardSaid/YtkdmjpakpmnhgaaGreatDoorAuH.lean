/- hammockref01.Wrong, hammockref06.Few. -/
import Derived.Test.YtkdmjpakpmnhgaaGreatDoorAuE
namespace Go.Proofs.YtkdmjpakpmnhgaaGreatDoor
set_option linter.all false
open Go.RowKit

def amB (x : Int) : Bool := decide (0 ≤ x ∧ x ≤ 1099511627776)
/-- Are all amounts within the bounds? -/
def amsB (zs : List Int) : Bool := zs.all amB
theorem amsB_iff {zs : List Int} : amsB zs = true ↔ ∀ j, j < zs.length → 0 ≤ zs.getD j 0 ∧ zs.getD j 0 ≤ 1099511627776 := by
  unfold amsB amB
  rw [List.all_eq_true]
  constructor
  · intro h j hj
    have := h (zs.getD j 0) (by rw [List.getD_eq_getElem?_getD, List.getElem?_eq_getElem hj]; exact List.getElem_mem _)
    exact of_decide_eq_true this
  · intro h x hx
    obtain ⟨j, hj, rfl⟩ := List.getElem_of_mem hx
    have := h j hj
    rw [List.getD_eq_getElem?_getD, List.getElem?_eq_getElem hj] at this
    exact decide_eq_true this
set_option maxHeartbeats 4000000 in
set_option maxRecDepth 100000 in
/-- Wrong tells an index from 0 on where an amount is out of its bounds, else -1. -/
theorem wrong01_any (v : Value) (zs : List Int) (w : World) (hz : zs.length ≤ 9223372036854775807) (h : IntsAt w v zs) :
    Calls Tryz.prog 14 #[v, .int .i64 zs.length] w fun e w' => (∃ r : Int, e = .returned (.int .i64 r) ∧ (r ≥ 0 ↔ amsB zs = false) ∧ -1 ≤ r ∧ r ≤ 9223372036854775807) ∧ w = w' := by
  obtain ⟨a, cap, rfl, hi⟩ := h
  obtain ⟨q, hq⟩ : ∃ q, q = zs.length := ⟨_, rfl⟩
  have HC : Hid (∀ j, j < q → ∃ b off, a = some ⟨b, off, none⟩ ∧ w.cell? ⟨b, off + j, none⟩ = some (.int .i64 (zs.getD j 0))) := fun j hj => by
    rcases hi with hi | ⟨b, off, h1, _, h2⟩
    · subst hi; simp at hq; omega
    · exact ⟨b, off, h1, h2 j (by rw [← hq]; exact hj)⟩
  rw [← hq] at hz ⊢
  have HQ := Lib.hid hq
  clear hi hq
  go_enter Tryz.func14, Tryz.ntmps14
  go_wp2
  go_loop [5] (fun iv => ∃ k : Nat, k ≤ q ∧ iv = .int .i64 k ∧ Hid (∀ j, j < k → 0 ≤ zs.getD j 0 ∧ zs.getD j 0 ≤ 1099511627776)) (fun iv => q - (intOf iv).toNat)
  case atStart => exact ⟨0, Nat.zero_le _, rfl, fun j hj => absurd hj (Nat.not_lt_zero _)⟩
  case round =>
    obtain ⟨k, hk, rfl, HA⟩ := hrel
    have hki : (0 : Int) ≤ (k : Int) := by omega
    by_cases hlt : k < q
    · obtain ⟨b, off, rfl, pc⟩ := HC.out k hlt
      have hkl : (k : Int) < (q : Int) := by omega
      have HN : Hid (0 ≤ zs.getD k 0 ∧ zs.getD k 0 ≤ 1099511627776 → ∀ j, j < k + 1 → 0 ≤ zs.getD j 0 ∧ zs.getD j 0 ≤ 1099511627776) := fun h j hj => by
        rcases Nat.lt_or_ge j k with h1 | h1
        · exact HA.out j h1
        · rw [show j = k by omega]; exact h
      have HB : Hid (¬ (0 ≤ zs.getD k 0 ∧ zs.getD k 0 ≤ 1099511627776) → amsB zs = false) := fun h => by
        cases hq : amsB zs with
        | false => rfl
        | true => exact absurd (amsB_iff.1 hq k (by rw [← HQ.out]; exact hlt)) h
      generalize zs.getD k 0 = x at *
      rcases (by omega : x < 0 ∨ (0 ≤ x ∧ x ≤ 1099511627776) ∨ (0 ≤ x ∧ 1099511627776 < x)) with h1 | ⟨h1, h2⟩ | ⟨h1, h2⟩
      · have HB2 := Lib.hid (HB.out (by omega))
        go_wp2
        go_ret
        exact ⟨⟨_, rfl, ⟨fun _ => HB2.out, fun _ => by omega⟩, by omega, by omega⟩, rfl⟩
      · have HN2 := Lib.hid (HN.out ⟨h1, h2⟩)
        have h3 : ¬ (x < 0) := by omega
        have h4 : ¬ (1099511627776 < x) := by omega
        go_wp2
        go_round
        case rel => exact ⟨k + 1, by omega, by go_num, HN2.out⟩
        case measure => simp [intOf]; omega
      · have HB2 := Lib.hid (HB.out (by omega))
        have h3 : ¬ (x < 0) := by omega
        go_wp2
        go_ret
        exact ⟨⟨_, rfl, ⟨fun _ => HB2.out, fun _ => by omega⟩, by omega, by omega⟩, rfl⟩
    · have hkl : ¬ ((k : Int) < (q : Int)) := by omega
      have HT : Hid (amsB zs = true) := amsB_iff.2 fun j hj => HA.out j (by rw [← HQ.out] at hj; omega)
      go_wp2
      go_ret
      exact ⟨⟨-1, rfl, ⟨fun h => by omega, fun h => by rw [HT.out] at h; cases h⟩, by omega, by omega⟩, rfl⟩
def podB (p : PodS) : Bool := decide (-1073741824 ≤ p.prio ∧ p.prio ≤ 1073741824 ∧ p.req.length ≤ 20)
/-- Are pods few, with priorities within the bounds and short vectors? -/
def few06 (ps : List PodS) : Bool := ps.all podB && decide (ps.length ≤ 100)
theorem few06_iff {ps : List PodS} : few06 ps = true ↔ (∀ j, j < ps.length → -1073741824 ≤ (pAt ps j).prio ∧ (pAt ps j).prio ≤ 1073741824 ∧ (pAt ps j).req.length ≤ 20) ∧ ps.length ≤ 100 := by
  unfold few06 podB
  rw [Bool.and_eq_true, List.all_eq_true, decide_eq_true_eq]
  refine and_congr_left fun _ => ⟨fun h j hj => of_decide_eq_true (h (pAt ps j) (List.mem_of_getElem? (pAt_get hj))), fun h p hp => ?_⟩
  obtain ⟨j, hj, e⟩ := List.getElem_of_mem hp
  have he : pAt ps j = p := by unfold pAt; rw [List.getD_eq_getElem?_getD, List.getElem?_eq_getElem hj]; exact e
  have := h j hj
  rw [he] at this
  exact decide_eq_true this
set_option maxHeartbeats 4000000 in
set_option maxRecDepth 100000 in
theorem few06_any (v : Value) (ps : List PodS) (w : World) (hx : ps.length ≤ 9223372036854775807) (h : AtPods w v ps) :
    Calls Tryz.prog 13 #[v] w fun e w' => e = .returned (.bool (few06 ps)) ∧ w = w' := by
  obtain ⟨a, cap, rfl, hget⟩ := h.get
  have HG := Lib.hid hget
  clear h hget
  obtain ⟨q, hq⟩ : ∃ q, q = ps.length := ⟨_, rfl⟩
  rw [← hq] at hx HG ⊢
  have HQ := Lib.hid hq
  clear hq
  go_enter Tryz.func13, Tryz.ntmps13
  go_wp2
  go_loop [3] (fun iv => ∃ k : Nat, k ≤ q ∧ iv = .int .i64 k ∧ Hid (∀ j, j < k → -1073741824 ≤ (pAt ps j).prio ∧ (pAt ps j).prio ≤ 1073741824 ∧ (pAt ps j).req.length ≤ 20)) (fun iv => q - (intOf iv).toNat)
  case atStart => exact ⟨0, Nat.zero_le _, rfl, fun j hj => absurd hj (Nat.not_lt_zero _)⟩
  case round =>
    obtain ⟨k, hk, rfl, HA⟩ := hrel
    have hki : (0 : Int) ≤ (k : Int) := by omega
    by_cases hlt : k < q
    · obtain ⟨b, off, aa, cc, rfl, hb, hc, -⟩ := HG.out k hlt
      have p1 := hc.c1
      have p4 := hc.c4
      have hkl : (k : Int) < (q : Int) := by omega
      have HN : Hid (-1073741824 ≤ (pAt ps k).prio ∧ (pAt ps k).prio ≤ 1073741824 ∧ (pAt ps k).req.length ≤ 20 → ∀ j, j < k + 1 → -1073741824 ≤ (pAt ps j).prio ∧ (pAt ps j).prio ≤ 1073741824 ∧ (pAt ps j).req.length ≤ 20) := fun h j hj => by
        rcases Nat.lt_or_ge j k with h1 | h1
        · exact HA.out j h1
        · rw [show j = k by omega]; exact h
      have HB : Hid (¬ (-1073741824 ≤ (pAt ps k).prio ∧ (pAt ps k).prio ≤ 1073741824 ∧ (pAt ps k).req.length ≤ 20) → few06 ps = false) := fun h => by
        cases hf : few06 ps with
        | false => rfl
        | true => exact absurd ((few06_iff.1 hf).1 k (by rw [← HQ.out]; exact hlt)) h
      clear hc
      generalize (pAt ps k).prio = x at *
      generalize (pAt ps k).req.length = m at *
      rcases (by omega : x < -1073741824 ∨ (-1073741824 ≤ x ∧ 1073741824 < x) ∨ (-1073741824 ≤ x ∧ x ≤ 1073741824 ∧ 20 < m) ∨ (-1073741824 ≤ x ∧ x ≤ 1073741824 ∧ m ≤ 20)) with h1 | ⟨h1, h2⟩ | ⟨h1, h2, h3⟩ | ⟨h1, h2, h3⟩
      · have HB2 := Lib.hid (HB.out (by omega))
        go_wp2
        go_ret
        exact ⟨by rw [HB2.out]; rfl, rfl⟩
      · have HB2 := Lib.hid (HB.out (by omega))
        have g1 : ¬ (x < -1073741824) := by omega
        go_wp2
        go_ret
        exact ⟨by rw [HB2.out]; rfl, rfl⟩
      · have HB2 := Lib.hid (HB.out (by omega))
        have g1 : ¬ (x < -1073741824) := by omega
        have g2 : ¬ (1073741824 < x) := by omega
        have g3 : (20 : Int) < (m : Int) := by omega
        go_wp2
        go_ret
        exact ⟨by rw [HB2.out]; rfl, rfl⟩
      · have HN2 := Lib.hid (HN.out ⟨h1, h2, h3⟩)
        have g1 : ¬ (x < -1073741824) := by omega
        have g2 : ¬ (1073741824 < x) := by omega
        have g3 : ¬ ((20 : Int) < (m : Int)) := by omega
        go_wp2
        go_round
        case rel => exact ⟨k + 1, by omega, by go_num, HN2.out⟩
        case measure => simp [intOf]; omega
    · have hkl : ¬ ((k : Int) < (q : Int)) := by omega
      have HF : Hid (few06 ps = decide ((q : Int) ≤ 100)) := by
        rw [Bool.eq_iff_iff, few06_iff, decide_eq_true_eq]
        refine ⟨fun h => by have := h.2; rw [← HQ.out] at this; omega, fun h => ⟨fun j hj => HA.out j (by rw [← HQ.out] at hj; omega), by rw [← HQ.out]; omega⟩⟩
      go_wp2
      go_ret
      exact ⟨by rw [HF.out]; rfl, rfl⟩
end Go.Proofs.YtkdmjpakpmnhgaaGreatDoor
