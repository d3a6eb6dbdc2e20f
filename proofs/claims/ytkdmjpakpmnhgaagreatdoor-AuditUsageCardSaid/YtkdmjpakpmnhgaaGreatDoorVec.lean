/- Comparisons of vectors: hammockref01.Fits, hammockref01.Same, slices.Equal, vec.Same. -/
import Derived.Test.YtkdmjpakpmnhgaaGreatDoorClone
import Derived.Deep.QuietTactic
import Derived.BigQuiet
namespace Go.Proofs.YtkdmjpakpmnhgaaGreatDoor
set_option linter.all false
open Go.RowKit

def fitsP : List Int → List Int → Bool
  | x :: xs, y :: ys => if x ≤ y then fitsP xs ys else false
  | [], [] => true
  | _, _ => false
theorem fitsP_both : ∀ xs ys : List Int, (fitsP xs ys && fitsP ys xs) = (xs == ys)
  | [], [] => rfl
  | [], _ :: _ => rfl
  | _ :: _, [] => rfl
  | x :: xs, y :: ys => by
    have ih := fitsP_both xs ys
    simp only [fitsP]
    by_cases h1 : x ≤ y
    · by_cases h2 : y ≤ x
      · have : x = y := by omega
        subst this
        rw [if_pos h1, if_pos h2, ih]
        simp
      · have : (x == y) = false := by simp; omega
        rw [if_neg h2, Bool.and_false]
        show _ = (x == y && xs == ys)
        rw [this]; rfl
    · have : (x == y) = false := by simp; omega
      rw [if_neg h1, Bool.false_and]
      show _ = (x == y && xs == ys)
      rw [this]; rfl
theorem fitsP_step {xs ys : List Int} {k : Nat} (h1 : k < xs.length) (h2 : k < ys.length) : fitsP (xs.drop k) (ys.drop k) = if xs.getD k 0 ≤ ys.getD k 0 then fitsP (xs.drop (k + 1)) (ys.drop (k + 1)) else false := by
  rw [List.drop_eq_getElem_cons h1, List.drop_eq_getElem_cons h2, fitsP, List.getD_eq_getElem?_getD, List.getD_eq_getElem?_getD, List.getElem?_eq_getElem h1, List.getElem?_eq_getElem h2]; rfl
theorem fitsP_len {xs ys : List Int} (h : xs = [] ∨ ys = []) : fitsP xs ys = ((xs.length : Int) == (ys.length : Int)) := by
  rcases h with rfl | rfl
  · cases ys
    · rfl
    · simp [fitsP]; omega
  · cases xs
    · rfl
    · simp [fitsP]; omega

set_option maxRecDepth 100000 in
theorem fits_some (b1 off1 cap1 b2 off2 cap2 : Nat) (xs ys : List Int) (w : World) (hx : xs.length * 8 ≤ 140737488351232) (hy : ys.length * 8 ≤ 140737488351232)
    (hc1 : ∀ j, j < xs.length → w.cell? ⟨b1, off1 + j, none⟩ = some (.int .i64 (xs.getD j 0))) (hc2 : ∀ j, j < ys.length → w.cell? ⟨b2, off2 + j, none⟩ = some (.int .i64 (ys.getD j 0))) :
    Calls Tryz.prog 18 #[.slice (some ⟨b1, off1, none⟩) xs.length cap1, .slice (some ⟨b2, off2, none⟩) ys.length cap2] w fun e w' => e = .returned (.bool (fitsP xs ys)) ∧ Below w.heap.size w w' := by
  obtain ⟨l1, hl1⟩ : ∃ n, n = xs.length := ⟨_, rfl⟩
  obtain ⟨l2, hl2⟩ : ∃ n, n = ys.length := ⟨_, rfl⟩
  rw [← hl1] at hx hc1 ⊢
  rw [← hl2] at hy hc2 ⊢
  have HL1 := Lib.hid hl1; clear hl1
  have HL2 := Lib.hid hl2; clear hl2
  have HC1 := Lib.hid hc1; clear hc1
  have HC2 := Lib.hid hc2; clear hc2
  go_enter Tryz.func18, Tryz.ntmps18
  go_wp2
  go_loopw [5] (fun i wr => ∃ k : Nat, k ≤ l1 ∧ k ≤ l2 ∧ i = .int .i64 k ∧ Hid (fitsP xs ys = fitsP (xs.drop k) (ys.drop k)) ∧ ∃ m, wr = w.drewN m) (fun i _ => l1 - (intOf i).toNat)
  case atStart => exact ⟨0, Nat.zero_le _, Nat.zero_le _, rfl, rfl, 0, rfl⟩
  case round =>
    obtain ⟨k, hk1, hk2, rfl, hrun, m, rfl⟩ := hrel
    by_cases hlt1 : k < l1
    · by_cases hlt2 : k < l2
      · obtain ⟨x, hxk⟩ : ∃ x, x = xs.getD k 0 := ⟨_, rfl⟩
        obtain ⟨y, hyk⟩ : ∃ y, y = ys.getD k 0 := ⟨_, rfl⟩
        have h1 : w.cell? ⟨b1, off1 + k, none⟩ = some (.int .i64 x) := by rw [hxk]; exact HC1.out k hlt1
        have h2 : w.cell? ⟨b2, off2 + k, none⟩ = some (.int .i64 y) := by rw [hyk]; exact HC2.out k hlt2
        have hs := fitsP_step (xs := xs) (ys := ys) (k := k) (by rw [← HL1.out]; exact hlt1) (by rw [← HL2.out]; exact hlt2)
        rw [← hxk, ← hyk] at hs
        clear hxk hyk
        have hki : (0 : Int) ≤ (k : Int) := by omega
        have hk1i : (k : Int) < (l1 : Int) := by omega
        have hk2i : (k : Int) < (l2 : Int) := by omega
        by_cases hxy : x ≤ y
        · have hfin : Hid (fitsP xs ys = fitsP (xs.drop (k + 1)) (ys.drop (k + 1))) := by rw [hrun.out, hs, if_pos hxy]; rfl
          clear hs hrun
          go_wp2
          go_quiet (fail)
          go_wp2
          go_roundw
          case rel => exact ⟨k + 1, by omega, by omega, by go_num, hfin, _, rfl⟩
          case measure => simp [intOf]; omega
        · have hfin : Hid (fitsP xs ys = false) := by rw [hrun.out, hs, if_neg hxy]; rfl
          clear hs hrun
          go_wp2
          go_quiet (fail)
          go_wp2
          go_ret
          exact ⟨by rw [hfin.out]; rfl, below_drewN (below_drewN (Below.refl _ _) _) _⟩
      · have hfin : Hid (fitsP xs ys = ((l1 : Int) == (l2 : Int))) := by
          rw [hrun.out, fitsP_len (.inr (List.drop_eq_nil_of_le (by rw [← HL2.out]; omega)))]
          have := HL1.out; have := HL2.out
          simp only [List.length_drop, ← HL1.out, ← HL2.out]
          show _ = _
          rw [Bool.eq_iff_iff]; simp; omega
        clear hrun
        go_wp2
        go_ret
        exact ⟨by rw [hfin.out]; rfl, below_drewN (Below.refl _ _) _⟩
    · have hfin : Hid (fitsP xs ys = ((l1 : Int) == (l2 : Int))) := by
        rw [hrun.out, fitsP_len (.inl (List.drop_eq_nil_of_le (by rw [← HL1.out]; omega)))]
        have := HL1.out; have := HL2.out
        simp only [List.length_drop, ← HL1.out, ← HL2.out]
        show _ = _
        rw [Bool.eq_iff_iff]; simp; omega
      clear hrun
      go_wp2
      go_ret
      exact ⟨by rw [hfin.out]; rfl, below_drewN (Below.refl _ _) _⟩

/-- One of the two has no elements: no round. -/
theorem fits_none (a1 a2 : Option Addr) (l1 l2 cap1 cap2 : Nat) (w : World) (h : l1 = 0 ∨ l2 = 0) (h1 : l1 * 8 ≤ 140737488351232) (h2 : l2 * 8 ≤ 140737488351232) :
    Calls Tryz.prog 18 #[.slice a1 l1 cap1, .slice a2 l2 cap2] w fun e w' => e = .returned (.bool ((l1 : Int) == (l2 : Int))) ∧ w = w' := by
  rcases h with rfl | rfl
  all_goals
    go_enter Tryz.func18, Tryz.ntmps18
    go_wp2
    refine wp_loop_rounds 1 ?_
    rw [rounds_succ]
    go_wp2
    all_goals
      go_ret
      exact ⟨rfl, rfl⟩
theorem fits_any (v1 v2 : Value) (xs ys : List Int) (w : World) (hx : xs.length * 8 ≤ 140737488351232) (hy : ys.length * 8 ≤ 140737488351232) (h1 : IntsAt w v1 xs) (h2 : IntsAt w v2 ys) :
    Calls Tryz.prog 18 #[v1, v2] w fun e w' => e = .returned (.bool (fitsP xs ys)) ∧ Below w.heap.size w w' := by
  obtain ⟨a1, c1, rfl, h1⟩ := h1
  obtain ⟨a2, c2, rfl, h2⟩ := h2
  have none : xs = [] ∨ ys = [] → Calls Tryz.prog 18 #[.slice a1 xs.length c1, .slice a2 ys.length c2] w fun e w' => e = .returned (.bool (fitsP xs ys)) ∧ Below w.heap.size w w' := fun h =>
    (fits_none a1 a2 xs.length ys.length c1 c2 w (h.imp (fun h => by rw [h]; rfl) (fun h => by rw [h]; rfl)) hx hy).mono fun e w' ⟨he, hw⟩ => ⟨by rw [he, fitsP_len h], hw ▸ Below.refl _ _⟩
  rcases h1 with rfl | ⟨b1, o1, rfl, lt1, hc1⟩
  · exact none (.inl rfl)
  rcases h2 with rfl | ⟨b2, o2, rfl, lt2, hc2⟩
  · exact none (.inr rfl)
  exact fits_some b1 o1 c1 b2 o2 c2 xs ys w hx hy hc1 hc2

theorem same01_any (v1 v2 : Value) (xs ys : List Int) (w : World) (hx : xs.length * 8 ≤ 140737488351232) (hy : ys.length * 8 ≤ 140737488351232) (h1 : IntsAt w v1 xs) (h2 : IntsAt w v2 ys) :
    Calls Tryz.prog 7 #[v1, v2] w fun e w' => e = .returned (.bool (xs == ys)) ∧ Below w.heap.size w w' := by
  have hb := fitsP_both xs ys
  have c1 := fits_any v1 v2 xs ys
  have c2 := fits_any v2 v1 ys xs
  cases h : fitsP xs ys
  · rw [h] at c1
    rw [h, Bool.false_and] at hb
    rw [← hb]
    have C1 := Lib.hid c1; clear c1 c2 hb h
    go_enter Tryz.func7, Tryz.ntmps7
    go_wp2_with fail
    refine (C1.out w hx hy h1 h2).mono ?_
    rintro e w1 ⟨rfl, B1⟩
    go_wp2
    go_ret
    exact ⟨rfl, B1⟩
  · rw [h] at c1
    rw [h, Bool.true_and] at hb
    rw [hb] at c2
    have C1 := Lib.hid c1; clear c1
    have C2 := Lib.hid c2; clear c2 hb h
    cases hr : xs == ys
    all_goals
      rw [hr] at C2
      have C3 := Lib.hid C2; clear C2 hr
      go_enter Tryz.func7, Tryz.ntmps7
      go_wp2_with fail
      refine (C1.out w hx hy h1 h2).mono ?_
      rintro e w1 ⟨rfl, B1⟩
      have h2' := h2.below B1
      have h1' := h1.below B1
      go_wp2_with fail
      refine (C3.out.out _ hy hx h2' h1').mono ?_
      rintro e w2 ⟨rfl, B2⟩
      go_wp2
      go_ret
      exact ⟨rfl, B1.trans (B2.mono B1.size)⟩

theorem eq_step {xs ys : List Int} {k : Nat} (h1 : k < xs.length) (h2 : k < ys.length) : (xs.drop k == ys.drop k) = ((xs.getD k 0 == ys.getD k 0) && (xs.drop (k + 1) == ys.drop (k + 1))) := by
  rw [List.drop_eq_getElem_cons h1, List.drop_eq_getElem_cons h2, List.getD_eq_getElem?_getD, List.getD_eq_getElem?_getD, List.getElem?_eq_getElem h1, List.getElem?_eq_getElem h2]; rfl
end Go.Proofs.YtkdmjpakpmnhgaaGreatDoor
